/- YtckefpenekolhaaT04zAluMoves: Go functions told as plain ones, each with a proof that its call comes to what is told, part 1. Condition of each: that the plain function comes to a value. -/
import Derived.Test.YtckefpenekolhaaT04
import Derived.Test.YtckefpenekolhaaEJ
import Derived.Test.YtckefpenekolhaaProg
namespace Go.Proofs.Ytckefpenekolhaa.T04
open Go Go.RowKit Go.Proofs.Ytckefpenekolhaa.E
set_option linter.unusedVariables false
set_option linter.unusedSimpArgs false
def eA23 : Enc (Vector Int 16) := ⟨16, fun x => [.int .u32 (vx 0 x 0), .int .u32 (vx 0 x 1), .int .u32 (vx 0 x 2), .int .u32 (vx 0 x 3), .int .u32 (vx 0 x 4), .int .u32 (vx 0 x 5), .int .u32 (vx 0 x 6), .int .u32 (vx 0 x 7), .int .u32 (vx 0 x 8), .int .u32 (vx 0 x 9), .int .u32 (vx 0 x 10), .int .u32 (vx 0 x 11), .int .u32 (vx 0 x 12), .int .u32 (vx 0 x 13), .int .u32 (vx 0 x 14), .int .u32 (vx 0 x 15)], (Vector.replicate 16 0), by decide, fun _ => rfl, fun x u hu => by simp at hu; rcases hu with rfl | rfl | rfl | rfl | rfl | rfl | rfl | rfl | rfl | rfl | rfl | rfl | rfl | rfl | rfl | rfl <;> rfl⟩
/-! rivet/rivetlaw04.AluMoves: function 7 -/
noncomputable def rivetlaw04_AluMoves.j1 (v88 : Bool) : Option Bool := some v88
noncomputable def rivetlaw04_AluMoves (a0 : Sapi_Regs) (a1 : Int) (a2 : Int) : Option Bool := ((rivetlaw04_shown).bind fun t8 => ((nm (w64 ((band .i64 (w64 a1) 131071) - 65536)) fun y13 => ((alu_Do a0 (⟨2, 0, w64 (band .u8 a2 15), 0, 0, y13, false⟩ : Sapi_Instr)).bind fun ⟨t17, t18⟩ => (((alu_Do a0 (⟨2, 0, w64 (band .u8 a2 15), 0, 0, band .i64 y13 65535, true⟩ : Sapi_Instr)).bind fun ⟨t30, t31⟩ => (((alu_Do a0 (⟨1, 0, w64 (band .u8 a2 15), 0, w64 (band .u8 a2 15), 0, false⟩ : Sapi_Instr)).bind fun ⟨t43, t44⟩ => (((alu_Do (t30 : Sapi_Regs) (⟨2, 6, w64 (band .u8 a2 15), w64 (band .u8 a2 15), 0, band .i64 y13 65535, false⟩ : Sapi_Instr)).bind fun ⟨t56, t57⟩ => ((if t8 = true then (if t18 = 0 then (if t31 = 0 then (if t44 = 0 then (if t57 = 0 then (if 0 ≤ (w64 (band .u8 a2 15)) ∧ (w64 (band .u8 a2 15)) < ((16 : Nat) : Int) then (if (vx 0 ((t17 : Sapi_Regs).R) (w64 (band .u8 a2 15) : Int).toNat) = (wu32 y13) then (if (((t17 : Sapi_Regs).N) == (decide (y13 < 0))) = true then (if (((t17 : Sapi_Regs).Z) == (y13 == 0)) = true then (if 0 ≤ (w64 (band .u8 a2 15)) ∧ (w64 (band .u8 a2 15)) < ((16 : Nat) : Int) then (if (vx 0 ((t30 : Sapi_Regs).R) (w64 (band .u8 a2 15) : Int).toNat) = (wu32 ((wu32 (band .i64 y13 65535)) * 2 ^ 16)) then (if 0 ≤ (w64 (band .u8 a2 15)) ∧ (w64 (band .u8 a2 15)) < ((16 : Nat) : Int) then ((alu_Show a0 (vx 0 a0.R (w64 (band .u8 a2 15) : Int).toNat)).bind fun t81 => ((if ((decide (((t43 : Sapi_Regs).R) = t81.R)) && ((((t43 : Sapi_Regs).H) == t81.H) && ((((t43 : Sapi_Regs).N) == t81.N) && ((((t43 : Sapi_Regs).Z) == t81.Z) && ((((t43 : Sapi_Regs).C) == t81.C) && ((((t43 : Sapi_Regs).V) == t81.V) && true)))))) = true then (if 0 ≤ (w64 (band .u8 a2 15)) ∧ (w64 (band .u8 a2 15)) < ((16 : Nat) : Int) then (if (vx 0 ((t56 : Sapi_Regs).R) (w64 (band .u8 a2 15) : Int).toNat) = (wu32 ((wu32 ((wu32 (band .i64 y13 65535)) * 2 ^ 16)) + (wu32 (band .i64 y13 65535)))) then (if (((t43 : Sapi_Regs).C) == a0.C) = true then (if (((t43 : Sapi_Regs).V) == a0.V) = true then rivetlaw04_AluMoves.j1 (((t43 : Sapi_Regs).H) == a0.H) else rivetlaw04_AluMoves.j1 false) else rivetlaw04_AluMoves.j1 false) else rivetlaw04_AluMoves.j1 false) else none) else rivetlaw04_AluMoves.j1 false))) else none) else rivetlaw04_AluMoves.j1 false) else none) else rivetlaw04_AluMoves.j1 false) else rivetlaw04_AluMoves.j1 false) else rivetlaw04_AluMoves.j1 false) else none) else rivetlaw04_AluMoves.j1 false) else rivetlaw04_AluMoves.j1 false) else rivetlaw04_AluMoves.j1 false) else rivetlaw04_AluMoves.j1 false) else rivetlaw04_AluMoves.j1 false))))))))))))
set_option maxRecDepth 100000 in
set_option maxHeartbeats 4000000 in
theorem rivetlaw04_AluMoves.calls (a0 : Sapi_Regs) (a1 : Int) (a2 : Int) (r : Bool) (w0 : World) (H : rivetlaw04_AluMoves a0 a1 a2 = some r) :
    Calls Try.prog 7 #[.agg (eSapi_Regs.enc a0).toArray, .int .i32 a1, .int .u8 a2] w0 fun e w' => e = .returned (.bool r) ∧ St [] w0 w' [] := by
 have hw : St [] w0 w0 [] := St.nil w0
 unfold rivetlaw04_AluMoves at H
 refine go_fn Try.func7 rfl 158 Try.ntmps7 [(0, .agg (eSapi_Regs.enc a0).toArray), (1, .int .i32 a1), (2, .int .u8 a2)] (by kernel_rfl) rfl ?_
 intro a hs
 refine go_seq_k fun K1 hK1 => ?_
 refine go_region ?_
 obtain ⟨ad2, wd3, hx4, hw⟩ := x_box1 (P := Try.prog) (elem := 25) (v := (Operand.tmp 0)) (ty := 0) hs hw eSapi_Regs a0 (by kernel_rfl)
 refine go_run hs (op := (Op.box 25 (Operand.tmp 0))) (ty := 0) (dst := some 3) (g := none) (by kernel_rfl) (by kernel_rfl) (by kernel_rfl) hx4 [1, 2, 3] (L' := [(1, .int .i32 a1), (2, .int .u8 a2), (3, .pointer (some ad2))]) (by kernel_rfl) ?_
 clear hs; intro a hs
 refine go_pvs 1 2 [1, 2, 3] hs (L' := [(1, .int .i32 a1), (2, .int .u8 a2), (3, .pointer (some ad2))]) (by kernel_rfl) ?_ rfl
 clear hs; intro a hs
 refine go_end (by kernel_rfl) ?_
 refine hK1 _ _ ?_
 refine go_seq_k fun K6 hK6 => ?_
 refine go_region ?_
 obtain ⟨t8, hx9, H⟩ := bind_some H
 refine go_call hs (op := (Op.call { callee := (Callee.value (Operand.func 10)), args := #[], argTypes := #[] })) (ty := 4) (dst := some 18) (g := none) (by kernel_rfl) (by kernel_rfl) (by kernel_rfl) (f := 10) (args := #[]) (by kernel_rfl) (rivetlaw04_shown.calls t8 _ hx9) ?_
 rintro e wd10 ⟨rfl, hw11⟩
 refine ⟨_, rfl, ?_⟩
 replace hw := hw.call hw11
 intro a hs1
 replace hs : Slots a 158 [(1, .int .i32 a1), (2, .int .u8 a2), (3, .pointer (some ad2)), (18, .bool t8)] := hs1.keep [1, 2, 3, 18] (by kernel_rfl)
 clear hs1
 refine go_pvs 1 2 [1, 2, 3, 7] hs (L' := [(1, .int .i32 a1), (2, .int .u8 a2), (3, .pointer (some ad2)), (7, .bool t8)]) (by kernel_rfl) ?_ rfl
 clear hs; intro a hs
 refine go_end (by kernel_rfl) ?_
 refine hK6 _ _ ?_
 refine go_seq_k fun K12 hK12 => ?_
 refine go_region ?_
 refine go_pvs 0 5 [2, 3, 7, 8] hs (L' := [(2, .int .u8 a2), (3, .pointer (some ad2)), (7, .bool t8), (8, .int .i64 (w64 ((band .i64 (w64 a1) 131071) - 65536)))]) (by kernel_rfl) ?_ rfl
 clear hs; intro a hs
 obtain ⟨y13, hy13, H⟩ := nm_some H
 replace hs : Slots a 158 [(2, .int .u8 a2), (3, .pointer (some ad2)), (7, .bool t8), (8, .int .i64 y13)] := by rw [hy13]; exact hs
 refine go_end (by kernel_rfl) ?_
 refine hK12 _ _ ?_
 refine go_seq_k fun K14 hK14 => ?_
 refine go_region ?_
 refine go_pvs 0 4 [3, 7, 8, 9] hs (L' := [(3, .pointer (some ad2)), (7, .bool t8), (8, .int .i64 y13), (9, .int .i64 (w64 (band .u8 a2 15)))]) (by kernel_rfl) ?_ rfl
 clear hs; intro a hs
 refine go_end (by kernel_rfl) ?_
 refine hK14 _ _ ?_
 refine go_seq_k fun K15 hK15 => ?_
 refine go_region ?_
 refine go_run hs (op := (Op.load 25 (Operand.tmp 3))) (ty := 25) (dst := some 27) (g := none) (by kernel_rfl) (by kernel_rfl) (by kernel_rfl) (x_lds (E := eSapi_Regs) (off := 0) (p := ad2) (cs := (eSapi_Regs.enc a0)) (Rd.of_own (hw.up 0)) (one_ok a0).1 (one_ok a0).2 (by kernel_rfl) (one_at _ _) (by kernel_rfl) (by kernel_rfl) (by kernel_rfl)) [3, 7, 8, 9, 27] (L' := [(3, .pointer (some ad2)), (7, .bool t8), (8, .int .i64 y13), (9, .int .i64 (w64 (band .u8 a2 15))), (27, .agg (eSapi_Regs.enc a0).toArray)]) (by kernel_rfl) ?_
 clear hs; intro a hs
 refine go_pvs 1 4 [3, 7, 8, 9, 27, 30] hs (L' := [(3, .pointer (some ad2)), (7, .bool t8), (8, .int .i64 y13), (9, .int .i64 (w64 (band .u8 a2 15))), (27, .agg (eSapi_Regs.enc a0).toArray), (30, .agg (eSapi_Instr.enc (⟨2, 0, w64 (band .u8 a2 15), 0, 0, y13, false⟩ : Sapi_Instr)).toArray)]) (by kernel_rfl) ?_ rfl
 clear hs; intro a hs
 obtain ⟨⟨t17, t18⟩, hx19, H⟩ := bind_some H
 refine go_call hs (op := (Op.call { callee := (Callee.value (Operand.func 12)), args := #[(Operand.tmp 27), (Operand.tmp 30)], argTypes := #[25, 27] })) (ty := 30) (dst := some 31) (g := none) (by kernel_rfl) (by kernel_rfl) (by kernel_rfl) (f := 12) (args := #[.agg (eSapi_Regs.enc a0).toArray, .agg (eSapi_Instr.enc (⟨2, 0, w64 (band .u8 a2 15), 0, 0, y13, false⟩ : Sapi_Instr)).toArray]) (by kernel_rfl) (alu_Do.calls a0 (⟨2, 0, w64 (band .u8 a2 15), 0, 0, y13, false⟩ : Sapi_Instr) (t17, t18) _ hx19) ?_
 rintro e wd20 ⟨rfl, hw21⟩
 refine ⟨_, rfl, ?_⟩
 replace hw := hw.call hw21
 intro a hs1
 replace hs : Slots a 158 [(3, .pointer (some ad2)), (7, .bool t8), (8, .int .i64 y13), (9, .int .i64 (w64 (band .u8 a2 15))), (31, .tuple #[.agg (eSapi_Regs.enc t17).toArray, .int .i64 t18])] := hs1.keep [3, 7, 8, 9, 31] (by kernel_rfl)
 clear hs1
 refine go_pvs 5 8 [3, 7, 8, 9, 32, 33] hs (L' := [(3, .pointer (some ad2)), (7, .bool t8), (8, .int .i64 y13), (9, .int .i64 (w64 (band .u8 a2 15))), (32, .agg (eSapi_Regs.enc t17).toArray), (33, .int .i64 t18)]) (by kernel_rfl) ?_ rfl
 clear hs; intro a hs
 obtain ⟨ad22, wd23, hx24, hw⟩ := x_alloc1 (P := Try.prog) (elem := 25) (ty := 0) (z := .agg (eSapi_Regs.enc (⟨(Vector.replicate 16 0), 0, false, false, false, false⟩ : Sapi_Regs)).toArray) hs hw eSapi_Regs (⟨(Vector.replicate 16 0), 0, false, false, false, false⟩ : Sapi_Regs) (by kernel_rfl) (by kernel_rfl)
 refine go_run hs (op := (Op.alloc 25)) (ty := 0) (dst := some 10) (g := none) (by kernel_rfl) (by kernel_rfl) (by kernel_rfl) hx24 [3, 7, 8, 9, 10, 32, 33] (L' := [(3, .pointer (some ad2)), (7, .bool t8), (8, .int .i64 y13), (9, .int .i64 (w64 (band .u8 a2 15))), (10, .pointer (some ad22)), (32, .agg (eSapi_Regs.enc t17).toArray), (33, .int .i64 t18)]) (by kernel_rfl) ?_
 clear hs; intro a hs
 obtain ⟨wd26, hx27, hw⟩ := x_put (P := Try.prog) (ty := 0) (t := 25) (x := (Operand.tmp 10)) (y := (Operand.tmp 32)) (off := 0) (p := ad22) (v := .agg (eSapi_Regs.enc t17).toArray) (vs := (eSapi_Regs.enc t17)) (i := 0) (e' := ((t17 : Sapi_Regs) : Sapi_Regs)) hs hw rfl (one_ok (⟨(Vector.replicate 16 0), 0, false, false, false, false⟩ : Sapi_Regs)).1 (one_ok (⟨(Vector.replicate 16 0), 0, false, false, false, false⟩ : Sapi_Regs)).2 (by kernel_rfl) (one_at _ _) (by kernel_rfl) rfl (by kernel_rfl) (Nat.le_of_ble_eq_true rfl) (eSapi_Regs.one _) (by kernel_rfl)
 refine go_unit hs (op := (Op.store 25 (Operand.tmp 10) (Operand.tmp 32))) (ty := 0) (dst := none) (g := none) (by kernel_rfl) (by kernel_rfl) (by kernel_rfl) hx27 [3, 7, 8, 9, 10, 33] (L' := [(3, .pointer (some ad2)), (7, .bool t8), (8, .int .i64 y13), (9, .int .i64 (w64 (band .u8 a2 15))), (10, .pointer (some ad22)), (33, .int .i64 t18)]) (by kernel_rfl) ?_
 clear hs; intro a hs
 replace hw : St [] w0 wd26 [own 25 eSapi_Regs (some ad22) 1 [(t17 : Sapi_Regs)], own 25 eSapi_Regs (some ad2) 1 [a0]] := hw
 refine go_pvs 10 11 [3, 7, 8, 9, 10, 11] hs (L' := [(3, .pointer (some ad2)), (7, .bool t8), (8, .int .i64 y13), (9, .int .i64 (w64 (band .u8 a2 15))), (10, .pointer (some ad22)), (11, .int .i64 t18)]) (by kernel_rfl) ?_ rfl
 clear hs; intro a hs
 refine go_end (by kernel_rfl) ?_
 refine hK15 _ _ ?_
 refine go_seq_k fun K28 hK28 => ?_
 refine go_region ?_
 refine go_run hs (op := (Op.load 25 (Operand.tmp 3))) (ty := 25) (dst := some 35) (g := none) (by kernel_rfl) (by kernel_rfl) (by kernel_rfl) (x_lds (E := eSapi_Regs) (off := 0) (p := ad2) (cs := (eSapi_Regs.enc a0)) (Rd.of_own (hw.up 1)) (one_ok a0).1 (one_ok a0).2 (by kernel_rfl) (one_at _ _) (by kernel_rfl) (by kernel_rfl) (by kernel_rfl)) [3, 7, 8, 9, 10, 11, 35] (L' := [(3, .pointer (some ad2)), (7, .bool t8), (8, .int .i64 y13), (9, .int .i64 (w64 (band .u8 a2 15))), (10, .pointer (some ad22)), (11, .int .i64 t18), (35, .agg (eSapi_Regs.enc a0).toArray)]) (by kernel_rfl) ?_
 clear hs; intro a hs
 refine go_pvs 1 5 [3, 7, 8, 9, 10, 11, 35, 39] hs (L' := [(3, .pointer (some ad2)), (7, .bool t8), (8, .int .i64 y13), (9, .int .i64 (w64 (band .u8 a2 15))), (10, .pointer (some ad22)), (11, .int .i64 t18), (35, .agg (eSapi_Regs.enc a0).toArray), (39, .agg (eSapi_Instr.enc (⟨2, 0, w64 (band .u8 a2 15), 0, 0, band .i64 y13 65535, true⟩ : Sapi_Instr)).toArray)]) (by kernel_rfl) ?_ rfl
 clear hs; intro a hs
 obtain ⟨⟨t30, t31⟩, hx32, H⟩ := bind_some H
 refine go_call hs (op := (Op.call { callee := (Callee.value (Operand.func 12)), args := #[(Operand.tmp 35), (Operand.tmp 39)], argTypes := #[25, 27] })) (ty := 30) (dst := some 40) (g := none) (by kernel_rfl) (by kernel_rfl) (by kernel_rfl) (f := 12) (args := #[.agg (eSapi_Regs.enc a0).toArray, .agg (eSapi_Instr.enc (⟨2, 0, w64 (band .u8 a2 15), 0, 0, band .i64 y13 65535, true⟩ : Sapi_Instr)).toArray]) (by kernel_rfl) (alu_Do.calls a0 (⟨2, 0, w64 (band .u8 a2 15), 0, 0, band .i64 y13 65535, true⟩ : Sapi_Instr) (t30, t31) _ hx32) ?_
 rintro e wd33 ⟨rfl, hw34⟩
 refine ⟨_, rfl, ?_⟩
 replace hw := hw.call hw34
 intro a hs1
 replace hs : Slots a 158 [(3, .pointer (some ad2)), (7, .bool t8), (8, .int .i64 y13), (9, .int .i64 (w64 (band .u8 a2 15))), (10, .pointer (some ad22)), (11, .int .i64 t18), (40, .tuple #[.agg (eSapi_Regs.enc t30).toArray, .int .i64 t31])] := hs1.keep [3, 7, 8, 9, 10, 11, 40] (by kernel_rfl)
 clear hs1
 refine go_pvs 6 9 [3, 7, 8, 9, 10, 11, 41, 42] hs (L' := [(3, .pointer (some ad2)), (7, .bool t8), (8, .int .i64 y13), (9, .int .i64 (w64 (band .u8 a2 15))), (10, .pointer (some ad22)), (11, .int .i64 t18), (41, .agg (eSapi_Regs.enc t30).toArray), (42, .int .i64 t31)]) (by kernel_rfl) ?_ rfl
 clear hs; intro a hs
 obtain ⟨ad35, wd36, hx37, hw⟩ := x_alloc1 (P := Try.prog) (elem := 25) (ty := 0) (z := .agg (eSapi_Regs.enc (⟨(Vector.replicate 16 0), 0, false, false, false, false⟩ : Sapi_Regs)).toArray) hs hw eSapi_Regs (⟨(Vector.replicate 16 0), 0, false, false, false, false⟩ : Sapi_Regs) (by kernel_rfl) (by kernel_rfl)
 refine go_run hs (op := (Op.alloc 25)) (ty := 0) (dst := some 12) (g := none) (by kernel_rfl) (by kernel_rfl) (by kernel_rfl) hx37 [3, 7, 8, 9, 10, 11, 12, 41, 42] (L' := [(3, .pointer (some ad2)), (7, .bool t8), (8, .int .i64 y13), (9, .int .i64 (w64 (band .u8 a2 15))), (10, .pointer (some ad22)), (11, .int .i64 t18), (12, .pointer (some ad35)), (41, .agg (eSapi_Regs.enc t30).toArray), (42, .int .i64 t31)]) (by kernel_rfl) ?_
 clear hs; intro a hs
 obtain ⟨wd39, hx40, hw⟩ := x_put (P := Try.prog) (ty := 0) (t := 25) (x := (Operand.tmp 12)) (y := (Operand.tmp 41)) (off := 0) (p := ad35) (v := .agg (eSapi_Regs.enc t30).toArray) (vs := (eSapi_Regs.enc t30)) (i := 0) (e' := ((t30 : Sapi_Regs) : Sapi_Regs)) hs hw rfl (one_ok (⟨(Vector.replicate 16 0), 0, false, false, false, false⟩ : Sapi_Regs)).1 (one_ok (⟨(Vector.replicate 16 0), 0, false, false, false, false⟩ : Sapi_Regs)).2 (by kernel_rfl) (one_at _ _) (by kernel_rfl) rfl (by kernel_rfl) (Nat.le_of_ble_eq_true rfl) (eSapi_Regs.one _) (by kernel_rfl)
 refine go_unit hs (op := (Op.store 25 (Operand.tmp 12) (Operand.tmp 41))) (ty := 0) (dst := none) (g := none) (by kernel_rfl) (by kernel_rfl) (by kernel_rfl) hx40 [3, 7, 8, 9, 10, 11, 12, 42] (L' := [(3, .pointer (some ad2)), (7, .bool t8), (8, .int .i64 y13), (9, .int .i64 (w64 (band .u8 a2 15))), (10, .pointer (some ad22)), (11, .int .i64 t18), (12, .pointer (some ad35)), (42, .int .i64 t31)]) (by kernel_rfl) ?_
 clear hs; intro a hs
 replace hw : St [] w0 wd39 [own 25 eSapi_Regs (some ad35) 1 [(t30 : Sapi_Regs)], own 25 eSapi_Regs (some ad22) 1 [(t17 : Sapi_Regs)], own 25 eSapi_Regs (some ad2) 1 [a0]] := hw
 refine go_pvs 11 12 [3, 7, 8, 9, 10, 11, 12, 13] hs (L' := [(3, .pointer (some ad2)), (7, .bool t8), (8, .int .i64 y13), (9, .int .i64 (w64 (band .u8 a2 15))), (10, .pointer (some ad22)), (11, .int .i64 t18), (12, .pointer (some ad35)), (13, .int .i64 t31)]) (by kernel_rfl) ?_ rfl
 clear hs; intro a hs
 refine go_end (by kernel_rfl) ?_
 refine hK28 _ _ ?_
 refine go_seq_k fun K41 hK41 => ?_
 refine go_region ?_
 refine go_run hs (op := (Op.load 25 (Operand.tmp 3))) (ty := 25) (dst := some 44) (g := none) (by kernel_rfl) (by kernel_rfl) (by kernel_rfl) (x_lds (E := eSapi_Regs) (off := 0) (p := ad2) (cs := (eSapi_Regs.enc a0)) (Rd.of_own (hw.up 2)) (one_ok a0).1 (one_ok a0).2 (by kernel_rfl) (one_at _ _) (by kernel_rfl) (by kernel_rfl) (by kernel_rfl)) [3, 7, 8, 9, 10, 11, 12, 13, 44] (L' := [(3, .pointer (some ad2)), (7, .bool t8), (8, .int .i64 y13), (9, .int .i64 (w64 (band .u8 a2 15))), (10, .pointer (some ad22)), (11, .int .i64 t18), (12, .pointer (some ad35)), (13, .int .i64 t31), (44, .agg (eSapi_Regs.enc a0).toArray)]) (by kernel_rfl) ?_
 clear hs; intro a hs
 refine go_pvs 1 4 [3, 7, 8, 9, 10, 11, 12, 13, 44, 47] hs (L' := [(3, .pointer (some ad2)), (7, .bool t8), (8, .int .i64 y13), (9, .int .i64 (w64 (band .u8 a2 15))), (10, .pointer (some ad22)), (11, .int .i64 t18), (12, .pointer (some ad35)), (13, .int .i64 t31), (44, .agg (eSapi_Regs.enc a0).toArray), (47, .agg (eSapi_Instr.enc (⟨1, 0, w64 (band .u8 a2 15), 0, w64 (band .u8 a2 15), 0, false⟩ : Sapi_Instr)).toArray)]) (by kernel_rfl) ?_ rfl
 clear hs; intro a hs
 obtain ⟨⟨t43, t44⟩, hx45, H⟩ := bind_some H
 refine go_call hs (op := (Op.call { callee := (Callee.value (Operand.func 12)), args := #[(Operand.tmp 44), (Operand.tmp 47)], argTypes := #[25, 27] })) (ty := 30) (dst := some 48) (g := none) (by kernel_rfl) (by kernel_rfl) (by kernel_rfl) (f := 12) (args := #[.agg (eSapi_Regs.enc a0).toArray, .agg (eSapi_Instr.enc (⟨1, 0, w64 (band .u8 a2 15), 0, w64 (band .u8 a2 15), 0, false⟩ : Sapi_Instr)).toArray]) (by kernel_rfl) (alu_Do.calls a0 (⟨1, 0, w64 (band .u8 a2 15), 0, w64 (band .u8 a2 15), 0, false⟩ : Sapi_Instr) (t43, t44) _ hx45) ?_
 rintro e wd46 ⟨rfl, hw47⟩
 refine ⟨_, rfl, ?_⟩
 replace hw := hw.call hw47
 intro a hs1
 replace hs : Slots a 158 [(3, .pointer (some ad2)), (7, .bool t8), (8, .int .i64 y13), (9, .int .i64 (w64 (band .u8 a2 15))), (10, .pointer (some ad22)), (11, .int .i64 t18), (12, .pointer (some ad35)), (13, .int .i64 t31), (48, .tuple #[.agg (eSapi_Regs.enc t43).toArray, .int .i64 t44])] := hs1.keep [3, 7, 8, 9, 10, 11, 12, 13, 48] (by kernel_rfl)
 clear hs1
 refine go_pvs 5 8 [3, 7, 8, 9, 10, 11, 12, 13, 49, 50] hs (L' := [(3, .pointer (some ad2)), (7, .bool t8), (8, .int .i64 y13), (9, .int .i64 (w64 (band .u8 a2 15))), (10, .pointer (some ad22)), (11, .int .i64 t18), (12, .pointer (some ad35)), (13, .int .i64 t31), (49, .agg (eSapi_Regs.enc t43).toArray), (50, .int .i64 t44)]) (by kernel_rfl) ?_ rfl
 clear hs; intro a hs
 obtain ⟨ad48, wd49, hx50, hw⟩ := x_alloc1 (P := Try.prog) (elem := 25) (ty := 0) (z := .agg (eSapi_Regs.enc (⟨(Vector.replicate 16 0), 0, false, false, false, false⟩ : Sapi_Regs)).toArray) hs hw eSapi_Regs (⟨(Vector.replicate 16 0), 0, false, false, false, false⟩ : Sapi_Regs) (by kernel_rfl) (by kernel_rfl)
 refine go_run hs (op := (Op.alloc 25)) (ty := 0) (dst := some 14) (g := none) (by kernel_rfl) (by kernel_rfl) (by kernel_rfl) hx50 [3, 7, 8, 9, 10, 11, 12, 13, 14, 49, 50] (L' := [(3, .pointer (some ad2)), (7, .bool t8), (8, .int .i64 y13), (9, .int .i64 (w64 (band .u8 a2 15))), (10, .pointer (some ad22)), (11, .int .i64 t18), (12, .pointer (some ad35)), (13, .int .i64 t31), (14, .pointer (some ad48)), (49, .agg (eSapi_Regs.enc t43).toArray), (50, .int .i64 t44)]) (by kernel_rfl) ?_
 clear hs; intro a hs
 obtain ⟨wd52, hx53, hw⟩ := x_put (P := Try.prog) (ty := 0) (t := 25) (x := (Operand.tmp 14)) (y := (Operand.tmp 49)) (off := 0) (p := ad48) (v := .agg (eSapi_Regs.enc t43).toArray) (vs := (eSapi_Regs.enc t43)) (i := 0) (e' := ((t43 : Sapi_Regs) : Sapi_Regs)) hs hw rfl (one_ok (⟨(Vector.replicate 16 0), 0, false, false, false, false⟩ : Sapi_Regs)).1 (one_ok (⟨(Vector.replicate 16 0), 0, false, false, false, false⟩ : Sapi_Regs)).2 (by kernel_rfl) (one_at _ _) (by kernel_rfl) rfl (by kernel_rfl) (Nat.le_of_ble_eq_true rfl) (eSapi_Regs.one _) (by kernel_rfl)
 refine go_unit hs (op := (Op.store 25 (Operand.tmp 14) (Operand.tmp 49))) (ty := 0) (dst := none) (g := none) (by kernel_rfl) (by kernel_rfl) (by kernel_rfl) hx53 [3, 7, 8, 9, 10, 11, 12, 13, 14, 50] (L' := [(3, .pointer (some ad2)), (7, .bool t8), (8, .int .i64 y13), (9, .int .i64 (w64 (band .u8 a2 15))), (10, .pointer (some ad22)), (11, .int .i64 t18), (12, .pointer (some ad35)), (13, .int .i64 t31), (14, .pointer (some ad48)), (50, .int .i64 t44)]) (by kernel_rfl) ?_
 clear hs; intro a hs
 replace hw : St [] w0 wd52 [own 25 eSapi_Regs (some ad48) 1 [(t43 : Sapi_Regs)], own 25 eSapi_Regs (some ad35) 1 [(t30 : Sapi_Regs)], own 25 eSapi_Regs (some ad22) 1 [(t17 : Sapi_Regs)], own 25 eSapi_Regs (some ad2) 1 [a0]] := hw
 refine go_pvs 10 11 [3, 7, 8, 9, 10, 11, 12, 13, 14, 15] hs (L' := [(3, .pointer (some ad2)), (7, .bool t8), (8, .int .i64 y13), (9, .int .i64 (w64 (band .u8 a2 15))), (10, .pointer (some ad22)), (11, .int .i64 t18), (12, .pointer (some ad35)), (13, .int .i64 t31), (14, .pointer (some ad48)), (15, .int .i64 t44)]) (by kernel_rfl) ?_ rfl
 clear hs; intro a hs
 refine go_end (by kernel_rfl) ?_
 refine hK41 _ _ ?_
 refine go_seq_k fun K54 hK54 => ?_
 refine go_region ?_
 refine go_run hs (op := (Op.load 25 (Operand.tmp 12))) (ty := 25) (dst := some 52) (g := none) (by kernel_rfl) (by kernel_rfl) (by kernel_rfl) (x_lds (E := eSapi_Regs) (off := 0) (p := ad35) (cs := (eSapi_Regs.enc (t30 : Sapi_Regs))) (Rd.of_own (hw.up 1)) (one_ok (t30 : Sapi_Regs)).1 (one_ok (t30 : Sapi_Regs)).2 (by kernel_rfl) (one_at _ _) (by kernel_rfl) (by kernel_rfl) (by kernel_rfl)) [3, 7, 8, 9, 10, 11, 12, 13, 14, 15, 52] (L' := [(3, .pointer (some ad2)), (7, .bool t8), (8, .int .i64 y13), (9, .int .i64 (w64 (band .u8 a2 15))), (10, .pointer (some ad22)), (11, .int .i64 t18), (12, .pointer (some ad35)), (13, .int .i64 t31), (14, .pointer (some ad48)), (15, .int .i64 t44), (52, .agg (eSapi_Regs.enc (t30 : Sapi_Regs)).toArray)]) (by kernel_rfl) ?_
 clear hs; intro a hs
 refine go_pvs 1 6 [3, 7, 8, 9, 10, 11, 12, 13, 14, 15, 52, 57] hs (L' := [(3, .pointer (some ad2)), (7, .bool t8), (8, .int .i64 y13), (9, .int .i64 (w64 (band .u8 a2 15))), (10, .pointer (some ad22)), (11, .int .i64 t18), (12, .pointer (some ad35)), (13, .int .i64 t31), (14, .pointer (some ad48)), (15, .int .i64 t44), (52, .agg (eSapi_Regs.enc (t30 : Sapi_Regs)).toArray), (57, .agg (eSapi_Instr.enc (⟨2, 6, w64 (band .u8 a2 15), w64 (band .u8 a2 15), 0, band .i64 y13 65535, false⟩ : Sapi_Instr)).toArray)]) (by kernel_rfl) ?_ rfl
 clear hs; intro a hs
 obtain ⟨⟨t56, t57⟩, hx58, H⟩ := bind_some H
 refine go_call hs (op := (Op.call { callee := (Callee.value (Operand.func 12)), args := #[(Operand.tmp 52), (Operand.tmp 57)], argTypes := #[25, 27] })) (ty := 30) (dst := some 58) (g := none) (by kernel_rfl) (by kernel_rfl) (by kernel_rfl) (f := 12) (args := #[.agg (eSapi_Regs.enc (t30 : Sapi_Regs)).toArray, .agg (eSapi_Instr.enc (⟨2, 6, w64 (band .u8 a2 15), w64 (band .u8 a2 15), 0, band .i64 y13 65535, false⟩ : Sapi_Instr)).toArray]) (by kernel_rfl) (alu_Do.calls (t30 : Sapi_Regs) (⟨2, 6, w64 (band .u8 a2 15), w64 (band .u8 a2 15), 0, band .i64 y13 65535, false⟩ : Sapi_Instr) (t56, t57) _ hx58) ?_
 rintro e wd59 ⟨rfl, hw60⟩
 refine ⟨_, rfl, ?_⟩
 replace hw := hw.call hw60
 intro a hs1
 replace hs : Slots a 158 [(3, .pointer (some ad2)), (7, .bool t8), (8, .int .i64 y13), (9, .int .i64 (w64 (band .u8 a2 15))), (10, .pointer (some ad22)), (11, .int .i64 t18), (12, .pointer (some ad35)), (13, .int .i64 t31), (14, .pointer (some ad48)), (15, .int .i64 t44), (58, .tuple #[.agg (eSapi_Regs.enc t56).toArray, .int .i64 t57])] := hs1.keep [3, 7, 8, 9, 10, 11, 12, 13, 14, 15, 58] (by kernel_rfl)
 clear hs1
 refine go_pvs 7 10 [3, 7, 8, 9, 10, 11, 12, 13, 14, 15, 59, 60] hs (L' := [(3, .pointer (some ad2)), (7, .bool t8), (8, .int .i64 y13), (9, .int .i64 (w64 (band .u8 a2 15))), (10, .pointer (some ad22)), (11, .int .i64 t18), (12, .pointer (some ad35)), (13, .int .i64 t31), (14, .pointer (some ad48)), (15, .int .i64 t44), (59, .agg (eSapi_Regs.enc t56).toArray), (60, .int .i64 t57)]) (by kernel_rfl) ?_ rfl
 clear hs; intro a hs
 obtain ⟨ad61, wd62, hx63, hw⟩ := x_alloc1 (P := Try.prog) (elem := 25) (ty := 0) (z := .agg (eSapi_Regs.enc (⟨(Vector.replicate 16 0), 0, false, false, false, false⟩ : Sapi_Regs)).toArray) hs hw eSapi_Regs (⟨(Vector.replicate 16 0), 0, false, false, false, false⟩ : Sapi_Regs) (by kernel_rfl) (by kernel_rfl)
 refine go_run hs (op := (Op.alloc 25)) (ty := 0) (dst := some 16) (g := none) (by kernel_rfl) (by kernel_rfl) (by kernel_rfl) hx63 [3, 7, 8, 9, 10, 11, 12, 13, 14, 15, 16, 59, 60] (L' := [(3, .pointer (some ad2)), (7, .bool t8), (8, .int .i64 y13), (9, .int .i64 (w64 (band .u8 a2 15))), (10, .pointer (some ad22)), (11, .int .i64 t18), (12, .pointer (some ad35)), (13, .int .i64 t31), (14, .pointer (some ad48)), (15, .int .i64 t44), (16, .pointer (some ad61)), (59, .agg (eSapi_Regs.enc t56).toArray), (60, .int .i64 t57)]) (by kernel_rfl) ?_
 clear hs; intro a hs
 obtain ⟨wd65, hx66, hw⟩ := x_put (P := Try.prog) (ty := 0) (t := 25) (x := (Operand.tmp 16)) (y := (Operand.tmp 59)) (off := 0) (p := ad61) (v := .agg (eSapi_Regs.enc t56).toArray) (vs := (eSapi_Regs.enc t56)) (i := 0) (e' := ((t56 : Sapi_Regs) : Sapi_Regs)) hs hw rfl (one_ok (⟨(Vector.replicate 16 0), 0, false, false, false, false⟩ : Sapi_Regs)).1 (one_ok (⟨(Vector.replicate 16 0), 0, false, false, false, false⟩ : Sapi_Regs)).2 (by kernel_rfl) (one_at _ _) (by kernel_rfl) rfl (by kernel_rfl) (Nat.le_of_ble_eq_true rfl) (eSapi_Regs.one _) (by kernel_rfl)
 refine go_unit hs (op := (Op.store 25 (Operand.tmp 16) (Operand.tmp 59))) (ty := 0) (dst := none) (g := none) (by kernel_rfl) (by kernel_rfl) (by kernel_rfl) hx66 [3, 7, 8, 9, 10, 11, 12, 13, 14, 15, 16, 60] (L' := [(3, .pointer (some ad2)), (7, .bool t8), (8, .int .i64 y13), (9, .int .i64 (w64 (band .u8 a2 15))), (10, .pointer (some ad22)), (11, .int .i64 t18), (12, .pointer (some ad35)), (13, .int .i64 t31), (14, .pointer (some ad48)), (15, .int .i64 t44), (16, .pointer (some ad61)), (60, .int .i64 t57)]) (by kernel_rfl) ?_
 clear hs; intro a hs
 replace hw : St [] w0 wd65 [own 25 eSapi_Regs (some ad61) 1 [(t56 : Sapi_Regs)], own 25 eSapi_Regs (some ad48) 1 [(t43 : Sapi_Regs)], own 25 eSapi_Regs (some ad35) 1 [(t30 : Sapi_Regs)], own 25 eSapi_Regs (some ad22) 1 [(t17 : Sapi_Regs)], own 25 eSapi_Regs (some ad2) 1 [a0]] := hw
 refine go_pvs 12 13 [3, 7, 8, 9, 10, 11, 12, 13, 14, 15, 16, 17] hs (L' := [(3, .pointer (some ad2)), (7, .bool t8), (8, .int .i64 y13), (9, .int .i64 (w64 (band .u8 a2 15))), (10, .pointer (some ad22)), (11, .int .i64 t18), (12, .pointer (some ad35)), (13, .int .i64 t31), (14, .pointer (some ad48)), (15, .int .i64 t44), (16, .pointer (some ad61)), (17, .int .i64 t57)]) (by kernel_rfl) ?_ rfl
 clear hs; intro a hs
 refine go_end (by kernel_rfl) ?_
 refine hK54 _ _ ?_
 refine go_seq_k fun K67 hK67 => ?_
 have hJ1 : ∀ (v88 : Bool) (a : Act) (w : World), Slots a 158 [(6, .bool v88)] → St [] w0 w [own 25 eSapi_Regs (some ad61) 1 [(t56 : Sapi_Regs)], own 25 eSapi_Regs (some ad48) 1 [(t43 : Sapi_Regs)], own 25 eSapi_Regs (some ad35) 1 [(t30 : Sapi_Regs)], own 25 eSapi_Regs (some ad22) 1 [(t17 : Sapi_Regs)], own 25 eSapi_Regs (some ad2) 1 [a0]] → rivetlaw04_AluMoves.j1 v88 = some r → K67 a w := by
  intro v88 a w hs hw H
  unfold rivetlaw04_AluMoves.j1 at H
  refine hK67 _ _ ?_
  refine wp_ret ?_
  obtain rfl := Option.some.inj H
  refine ret1 (t := 6) (v := .bool v88) hs (by kernel_rfl) (by kernel_rfl) ?_
  exact ⟨rfl, hw.only 0⟩
 refine q2_region (by kernel_rfl) (by kernel_rfl) ?_
 refine q_pvs 0 2 [3, 8, 9, 10, 11, 12, 13, 14, 15, 16, 17, 62] hs (L' := [(3, .pointer (some ad2)), (8, .int .i64 y13), (9, .int .i64 (w64 (band .u8 a2 15))), (10, .pointer (some ad22)), (11, .int .i64 t18), (12, .pointer (some ad35)), (13, .int .i64 t31), (14, .pointer (some ad48)), (15, .int .i64 t44), (16, .pointer (some ad61)), (17, .int .i64 t57), (62, .bool t8)]) (by kernel_rfl) ?_ rfl
 clear hs; intro a hs
 cases hb68 : t8
 ·replace H := ite_f H (ff hb68)
  rw [hb68] at hs
  refine q_pvs 2 98 [6] hs (L' := [(6, .bool false)]) (by kernel_rfl) ?_ rfl
  clear hs; intro a hs
  refine q_end (by kernel_rfl) ?_
  intro wq hbq
  replace hw := hw.behind hbq
  replace hw := hw.up 4
  replace hw := hw.up 4
  replace hw := hw.up 4
  replace hw := hw.up 4
  replace hw := hw.up 4
  replace hw := hw.only 5
  exact hJ1 false _ _ (hs.keep [6] (by kernel_rfl)) hw H
 ·replace H := ite_t H hb68
  rw [hb68] at hs
  refine q_pvs 2 6 [3, 8, 9, 10, 12, 13, 14, 15, 16, 17, 66] hs (L' := [(3, .pointer (some ad2)), (8, .int .i64 y13), (9, .int .i64 (w64 (band .u8 a2 15))), (10, .pointer (some ad22)), (12, .pointer (some ad35)), (13, .int .i64 t31), (14, .pointer (some ad48)), (15, .int .i64 t44), (16, .pointer (some ad61)), (17, .int .i64 t57), (66, .bool (t18 == 0))]) (by kernel_rfl) ?_ rfl
  clear hs; intro a hs
  cases hb69 : (t18 == 0)
  ·replace H := ite_f H (beq_eq_false_iff_ne.1 hb69)
   rw [hb69] at hs
   refine q_pvs 6 98 [6] hs (L' := [(6, .bool false)]) (by kernel_rfl) ?_ rfl
   clear hs; intro a hs
   refine q_end (by kernel_rfl) ?_
   intro wq hbq
   replace hw := hw.behind hbq
   replace hw := hw.up 4
   replace hw := hw.up 4
   replace hw := hw.up 4
   replace hw := hw.up 4
   replace hw := hw.up 4
   replace hw := hw.only 5
   exact hJ1 false _ _ (hs.keep [6] (by kernel_rfl)) hw H
  ·replace H := ite_t H (beq_iff_eq.1 hb69)
   rw [hb69] at hs
   refine q_pvs 6 10 [3, 8, 9, 10, 12, 14, 15, 16, 17, 70] hs (L' := [(3, .pointer (some ad2)), (8, .int .i64 y13), (9, .int .i64 (w64 (band .u8 a2 15))), (10, .pointer (some ad22)), (12, .pointer (some ad35)), (14, .pointer (some ad48)), (15, .int .i64 t44), (16, .pointer (some ad61)), (17, .int .i64 t57), (70, .bool (t31 == 0))]) (by kernel_rfl) ?_ rfl
   clear hs; intro a hs
   cases hb70 : (t31 == 0)
   ·replace H := ite_f H (beq_eq_false_iff_ne.1 hb70)
    rw [hb70] at hs
    refine q_pvs 10 98 [6] hs (L' := [(6, .bool false)]) (by kernel_rfl) ?_ rfl
    clear hs; intro a hs
    refine q_end (by kernel_rfl) ?_
    intro wq hbq
    replace hw := hw.behind hbq
    replace hw := hw.up 4
    replace hw := hw.up 4
    replace hw := hw.up 4
    replace hw := hw.up 4
    replace hw := hw.up 4
    replace hw := hw.only 5
    exact hJ1 false _ _ (hs.keep [6] (by kernel_rfl)) hw H
   ·replace H := ite_t H (beq_iff_eq.1 hb70)
    rw [hb70] at hs
    refine q_pvs 10 14 [3, 8, 9, 10, 12, 14, 16, 17, 74] hs (L' := [(3, .pointer (some ad2)), (8, .int .i64 y13), (9, .int .i64 (w64 (band .u8 a2 15))), (10, .pointer (some ad22)), (12, .pointer (some ad35)), (14, .pointer (some ad48)), (16, .pointer (some ad61)), (17, .int .i64 t57), (74, .bool (t44 == 0))]) (by kernel_rfl) ?_ rfl
    clear hs; intro a hs
    cases hb71 : (t44 == 0)
    ·replace H := ite_f H (beq_eq_false_iff_ne.1 hb71)
     rw [hb71] at hs
     refine q_pvs 14 98 [6] hs (L' := [(6, .bool false)]) (by kernel_rfl) ?_ rfl
     clear hs; intro a hs
     refine q_end (by kernel_rfl) ?_
     intro wq hbq
     replace hw := hw.behind hbq
     replace hw := hw.up 4
     replace hw := hw.up 4
     replace hw := hw.up 4
     replace hw := hw.up 4
     replace hw := hw.up 4
     replace hw := hw.only 5
     exact hJ1 false _ _ (hs.keep [6] (by kernel_rfl)) hw H
    ·replace H := ite_t H (beq_iff_eq.1 hb71)
     rw [hb71] at hs
     refine q_pvs 14 18 [3, 8, 9, 10, 12, 14, 16, 78] hs (L' := [(3, .pointer (some ad2)), (8, .int .i64 y13), (9, .int .i64 (w64 (band .u8 a2 15))), (10, .pointer (some ad22)), (12, .pointer (some ad35)), (14, .pointer (some ad48)), (16, .pointer (some ad61)), (78, .bool (t57 == 0))]) (by kernel_rfl) ?_ rfl
     clear hs; intro a hs
     cases hb72 : (t57 == 0)
     ·replace H := ite_f H (beq_eq_false_iff_ne.1 hb72)
      rw [hb72] at hs
      refine q_pvs 18 98 [6] hs (L' := [(6, .bool false)]) (by kernel_rfl) ?_ rfl
      clear hs; intro a hs
      refine q_end (by kernel_rfl) ?_
      intro wq hbq
      replace hw := hw.behind hbq
      replace hw := hw.up 4
      replace hw := hw.up 4
      replace hw := hw.up 4
      replace hw := hw.up 4
      replace hw := hw.up 4
      replace hw := hw.only 5
      exact hJ1 false _ _ (hs.keep [6] (by kernel_rfl)) hw H
     ·replace H := ite_t H (beq_iff_eq.1 hb72)
      rw [hb72] at hs
      refine q_pvs 18 20 [3, 8, 9, 10, 12, 14, 16, 78, 79, 80] hs (L' := [(3, .pointer (some ad2)), (8, .int .i64 y13), (9, .int .i64 (w64 (band .u8 a2 15))), (10, .pointer (some ad22)), (12, .pointer (some ad35)), (14, .pointer (some ad48)), (16, .pointer (some ad61)), (78, .bool true), (79, .int .i64 (w64 (band .u8 a2 15))), (80, .pointer (some ((ad22 : Addr).add 0)))]) (by kernel_rfl) ?_ rfl
      clear hs; intro a hs
      obtain ⟨hp73, H⟩ := ite_only H
      refine q_run hs (op := (Op.indexAddr 23 (Operand.tmp 80) (Operand.tmp 79))) (ty := 0) (dst := some 81) (g := some (17, true)) (by kernel_rfl) (by kernel_rfl) (by kernel_rfl) (fun wx hbx => (x_vidx (e := 22) (p := (ad22 : Addr).add 0) (n := 16) (k := .i64) (i := (w64 (band .u8 a2 15))) (sz := 1) (by kernel_rfl) (by kernel_rfl) (by kernel_rfl) (by kernel_rfl) hp73.1 hp73.2)) [3, 8, 9, 10, 12, 14, 16, 78, 81] (L' := [(3, .pointer (some ad2)), (8, .int .i64 y13), (9, .int .i64 (w64 (band .u8 a2 15))), (10, .pointer (some ad22)), (12, .pointer (some ad35)), (14, .pointer (some ad48)), (16, .pointer (some ad61)), (78, .bool true), (81, .pointer (some (((ad22 : Addr).add 0 : Addr).add ((w64 (band .u8 a2 15) : Int).toNat * 1))))]) (by kernel_rfl) ?_
      clear hs; intro a hs
      refine q_run hs (op := (Op.load 22 (Operand.tmp 81))) (ty := 22) (dst := some 82) (g := some (17, true)) (by kernel_rfl) (by kernel_rfl) (by kernel_rfl) (fun wx hbx => (x_ld (E := eSapi_Regs) (off := 0 + (w64 (band .u8 a2 15) : Int).toNat * 1) (p := ((ad22 : Addr).add 0 : Addr).add ((w64 (band .u8 a2 15) : Int).toNat * 1)) (v := .int .u32 (vx 0 ((t17 : Sapi_Regs).R) (w64 (band .u8 a2 15) : Int).toNat)) ((Rd.of_own (hw.up 3)).below hbx) (one_ok (t17 : Sapi_Regs)).1 (one_ok (t17 : Sapi_Regs)).2 (by kernel_rfl) (by simp only [add_add', Int.toNat_zero, Nat.zero_mul, Nat.zero_add, Nat.mul_one] <;> rfl) (by kernel_rfl) (vget (cs := eSapi_Regs.enc (t17 : Sapi_Regs)) (pre := []) (post := [.int .u32 ((t17 : Sapi_Regs).H), .bool ((t17 : Sapi_Regs).N), .bool ((t17 : Sapi_Regs).Z), .bool ((t17 : Sapi_Regs).C), .bool ((t17 : Sapi_Regs).V)]) (f := (fun j : Nat => .int .u32 (vx 0 ((t17 : Sapi_Regs).R) j))) (n := 16) (o := 0) (i := (w64 (band .u8 a2 15) : Int).toNat) (by kernel_rfl) rfl (by have := hp73; omega)))) [3, 8, 9, 10, 12, 14, 16, 78, 82] (L' := [(3, .pointer (some ad2)), (8, .int .i64 y13), (9, .int .i64 (w64 (band .u8 a2 15))), (10, .pointer (some ad22)), (12, .pointer (some ad35)), (14, .pointer (some ad48)), (16, .pointer (some ad61)), (78, .bool true), (82, .int .u32 (vx 0 ((t17 : Sapi_Regs).R) (w64 (band .u8 a2 15) : Int).toNat))]) (by kernel_rfl) ?_
      clear hs; intro a hs
      refine q_pvs 22 27 [3, 8, 9, 10, 12, 14, 16, 87] hs (L' := [(3, .pointer (some ad2)), (8, .int .i64 y13), (9, .int .i64 (w64 (band .u8 a2 15))), (10, .pointer (some ad22)), (12, .pointer (some ad35)), (14, .pointer (some ad48)), (16, .pointer (some ad61)), (87, .bool ((vx 0 ((t17 : Sapi_Regs).R) (w64 (band .u8 a2 15) : Int).toNat) == (wu32 y13)))]) (by kernel_rfl) ?_ rfl
      clear hs; intro a hs
      cases hb74 : ((vx 0 ((t17 : Sapi_Regs).R) (w64 (band .u8 a2 15) : Int).toNat) == (wu32 y13))
      ·replace H := ite_f H (beq_eq_false_iff_ne.1 hb74)
       rw [hb74] at hs
       refine q_pvs 27 98 [6] hs (L' := [(6, .bool false)]) (by kernel_rfl) ?_ rfl
       clear hs; intro a hs
       refine q_end (by kernel_rfl) ?_
       intro wq hbq
       replace hw := hw.behind hbq
       replace hw := hw.up 4
       replace hw := hw.up 4
       replace hw := hw.up 4
       replace hw := hw.up 4
       replace hw := hw.up 4
       replace hw := hw.only 5
       exact hJ1 false _ _ (hs.keep [6] (by kernel_rfl)) hw H
      ·replace H := ite_t H (beq_iff_eq.1 hb74)
       rw [hb74] at hs
       refine q_pvs 27 28 [3, 8, 9, 10, 12, 14, 16, 87, 88] hs (L' := [(3, .pointer (some ad2)), (8, .int .i64 y13), (9, .int .i64 (w64 (band .u8 a2 15))), (10, .pointer (some ad22)), (12, .pointer (some ad35)), (14, .pointer (some ad48)), (16, .pointer (some ad61)), (87, .bool true), (88, .pointer (some ((ad22 : Addr).add 17)))]) (by kernel_rfl) ?_ rfl
       clear hs; intro a hs
       refine q_run hs (op := (Op.load 4 (Operand.tmp 88))) (ty := 4) (dst := some 89) (g := some (26, true)) (by kernel_rfl) (by kernel_rfl) (by kernel_rfl) (fun wx hbx => (x_ld (E := eSapi_Regs) (off := 17) (p := (ad22 : Addr).add 17) (v := .bool ((t17 : Sapi_Regs).N)) ((Rd.of_own (hw.up 3)).below hbx) (one_ok (t17 : Sapi_Regs)).1 (one_ok (t17 : Sapi_Regs)).2 (by kernel_rfl) (one_off _ _ _) (by kernel_rfl) (by kernel_rfl))) [3, 8, 9, 10, 12, 14, 16, 87, 89] (L' := [(3, .pointer (some ad2)), (8, .int .i64 y13), (9, .int .i64 (w64 (band .u8 a2 15))), (10, .pointer (some ad22)), (12, .pointer (some ad35)), (14, .pointer (some ad48)), (16, .pointer (some ad61)), (87, .bool true), (89, .bool ((t17 : Sapi_Regs).N))]) (by kernel_rfl) ?_
       clear hs; intro a hs
       refine q_pvs 29 34 [3, 8, 9, 10, 12, 14, 16, 94] hs (L' := [(3, .pointer (some ad2)), (8, .int .i64 y13), (9, .int .i64 (w64 (band .u8 a2 15))), (10, .pointer (some ad22)), (12, .pointer (some ad35)), (14, .pointer (some ad48)), (16, .pointer (some ad61)), (94, .bool (((t17 : Sapi_Regs).N) == (decide (y13 < 0))))]) (by kernel_rfl) ?_ rfl
       clear hs; intro a hs
       cases hb75 : (((t17 : Sapi_Regs).N) == (decide (y13 < 0)))
       ·replace H := ite_f H (ff hb75)
        rw [hb75] at hs
        refine q_pvs 34 98 [6] hs (L' := [(6, .bool false)]) (by kernel_rfl) ?_ rfl
        clear hs; intro a hs
        refine q_end (by kernel_rfl) ?_
        intro wq hbq
        replace hw := hw.behind hbq
        replace hw := hw.up 4
        replace hw := hw.up 4
        replace hw := hw.up 4
        replace hw := hw.up 4
        replace hw := hw.up 4
        replace hw := hw.only 5
        exact hJ1 false _ _ (hs.keep [6] (by kernel_rfl)) hw H
       ·replace H := ite_t H hb75
        rw [hb75] at hs
        refine q_pvs 34 35 [3, 8, 9, 12, 14, 16, 94, 95] hs (L' := [(3, .pointer (some ad2)), (8, .int .i64 y13), (9, .int .i64 (w64 (band .u8 a2 15))), (12, .pointer (some ad35)), (14, .pointer (some ad48)), (16, .pointer (some ad61)), (94, .bool true), (95, .pointer (some ((ad22 : Addr).add 18)))]) (by kernel_rfl) ?_ rfl
        clear hs; intro a hs
        refine q_run hs (op := (Op.load 4 (Operand.tmp 95))) (ty := 4) (dst := some 96) (g := some (33, true)) (by kernel_rfl) (by kernel_rfl) (by kernel_rfl) (fun wx hbx => (x_ld (E := eSapi_Regs) (off := 18) (p := (ad22 : Addr).add 18) (v := .bool ((t17 : Sapi_Regs).Z)) ((Rd.of_own (hw.up 3)).below hbx) (one_ok (t17 : Sapi_Regs)).1 (one_ok (t17 : Sapi_Regs)).2 (by kernel_rfl) (one_off _ _ _) (by kernel_rfl) (by kernel_rfl))) [3, 8, 9, 12, 14, 16, 94, 96] (L' := [(3, .pointer (some ad2)), (8, .int .i64 y13), (9, .int .i64 (w64 (band .u8 a2 15))), (12, .pointer (some ad35)), (14, .pointer (some ad48)), (16, .pointer (some ad61)), (94, .bool true), (96, .bool ((t17 : Sapi_Regs).Z))]) (by kernel_rfl) ?_
        clear hs; intro a hs
        refine q_pvs 36 41 [3, 8, 9, 12, 14, 16, 101] hs (L' := [(3, .pointer (some ad2)), (8, .int .i64 y13), (9, .int .i64 (w64 (band .u8 a2 15))), (12, .pointer (some ad35)), (14, .pointer (some ad48)), (16, .pointer (some ad61)), (101, .bool (((t17 : Sapi_Regs).Z) == (y13 == 0)))]) (by kernel_rfl) ?_ rfl
        clear hs; intro a hs
        cases hb76 : (((t17 : Sapi_Regs).Z) == (y13 == 0))
        ·replace H := ite_f H (ff hb76)
         rw [hb76] at hs
         refine q_pvs 41 98 [6] hs (L' := [(6, .bool false)]) (by kernel_rfl) ?_ rfl
         clear hs; intro a hs
         refine q_end (by kernel_rfl) ?_
         intro wq hbq
         replace hw := hw.behind hbq
         replace hw := hw.up 4
         replace hw := hw.up 4
         replace hw := hw.up 4
         replace hw := hw.up 4
         replace hw := hw.up 4
         replace hw := hw.only 5
         exact hJ1 false _ _ (hs.keep [6] (by kernel_rfl)) hw H
        ·replace H := ite_t H hb76
         rw [hb76] at hs
         refine q_pvs 41 43 [3, 8, 9, 14, 16, 101, 102, 103] hs (L' := [(3, .pointer (some ad2)), (8, .int .i64 y13), (9, .int .i64 (w64 (band .u8 a2 15))), (14, .pointer (some ad48)), (16, .pointer (some ad61)), (101, .bool true), (102, .int .i64 (w64 (band .u8 a2 15))), (103, .pointer (some ((ad35 : Addr).add 0)))]) (by kernel_rfl) ?_ rfl
         clear hs; intro a hs
         obtain ⟨hp77, H⟩ := ite_only H
         refine q_run hs (op := (Op.indexAddr 23 (Operand.tmp 103) (Operand.tmp 102))) (ty := 0) (dst := some 104) (g := some (40, true)) (by kernel_rfl) (by kernel_rfl) (by kernel_rfl) (fun wx hbx => (x_vidx (e := 22) (p := (ad35 : Addr).add 0) (n := 16) (k := .i64) (i := (w64 (band .u8 a2 15))) (sz := 1) (by kernel_rfl) (by kernel_rfl) (by kernel_rfl) (by kernel_rfl) hp77.1 hp77.2)) [3, 8, 9, 14, 16, 101, 104] (L' := [(3, .pointer (some ad2)), (8, .int .i64 y13), (9, .int .i64 (w64 (band .u8 a2 15))), (14, .pointer (some ad48)), (16, .pointer (some ad61)), (101, .bool true), (104, .pointer (some (((ad35 : Addr).add 0 : Addr).add ((w64 (band .u8 a2 15) : Int).toNat * 1))))]) (by kernel_rfl) ?_
         clear hs; intro a hs
         refine q_run hs (op := (Op.load 22 (Operand.tmp 104))) (ty := 22) (dst := some 105) (g := some (40, true)) (by kernel_rfl) (by kernel_rfl) (by kernel_rfl) (fun wx hbx => (x_ld (E := eSapi_Regs) (off := 0 + (w64 (band .u8 a2 15) : Int).toNat * 1) (p := ((ad35 : Addr).add 0 : Addr).add ((w64 (band .u8 a2 15) : Int).toNat * 1)) (v := .int .u32 (vx 0 ((t30 : Sapi_Regs).R) (w64 (band .u8 a2 15) : Int).toNat)) ((Rd.of_own (hw.up 2)).below hbx) (one_ok (t30 : Sapi_Regs)).1 (one_ok (t30 : Sapi_Regs)).2 (by kernel_rfl) (by simp only [add_add', Int.toNat_zero, Nat.zero_mul, Nat.zero_add, Nat.mul_one] <;> rfl) (by kernel_rfl) (vget (cs := eSapi_Regs.enc (t30 : Sapi_Regs)) (pre := []) (post := [.int .u32 ((t30 : Sapi_Regs).H), .bool ((t30 : Sapi_Regs).N), .bool ((t30 : Sapi_Regs).Z), .bool ((t30 : Sapi_Regs).C), .bool ((t30 : Sapi_Regs).V)]) (f := (fun j : Nat => .int .u32 (vx 0 ((t30 : Sapi_Regs).R) j))) (n := 16) (o := 0) (i := (w64 (band .u8 a2 15) : Int).toNat) (by kernel_rfl) rfl (by have := hp77; omega)))) [3, 8, 9, 14, 16, 101, 105] (L' := [(3, .pointer (some ad2)), (8, .int .i64 y13), (9, .int .i64 (w64 (band .u8 a2 15))), (14, .pointer (some ad48)), (16, .pointer (some ad61)), (101, .bool true), (105, .int .u32 (vx 0 ((t30 : Sapi_Regs).R) (w64 (band .u8 a2 15) : Int).toNat))]) (by kernel_rfl) ?_
         clear hs; intro a hs
         refine q_pvs 45 52 [3, 8, 9, 14, 16, 112] hs (L' := [(3, .pointer (some ad2)), (8, .int .i64 y13), (9, .int .i64 (w64 (band .u8 a2 15))), (14, .pointer (some ad48)), (16, .pointer (some ad61)), (112, .bool ((vx 0 ((t30 : Sapi_Regs).R) (w64 (band .u8 a2 15) : Int).toNat) == (wu32 ((wu32 (band .i64 y13 65535)) * 2 ^ 16))))]) (by kernel_rfl) ?_ rfl
         clear hs; intro a hs
         cases hb78 : ((vx 0 ((t30 : Sapi_Regs).R) (w64 (band .u8 a2 15) : Int).toNat) == (wu32 ((wu32 (band .i64 y13 65535)) * 2 ^ 16)))
         ·replace H := ite_f H (beq_eq_false_iff_ne.1 hb78)
          rw [hb78] at hs
          refine q_pvs 52 98 [6] hs (L' := [(6, .bool false)]) (by kernel_rfl) ?_ rfl
          clear hs; intro a hs
          refine q_end (by kernel_rfl) ?_
          intro wq hbq
          replace hw := hw.behind hbq
          replace hw := hw.up 4
          replace hw := hw.up 4
          replace hw := hw.up 4
          replace hw := hw.up 4
          replace hw := hw.up 4
          replace hw := hw.only 5
          exact hJ1 false _ _ (hs.keep [6] (by kernel_rfl)) hw H
         ·replace H := ite_t H (beq_iff_eq.1 hb78)
          rw [hb78] at hs
          refine q_run hs (op := (Op.load 25 (Operand.tmp 14))) (ty := 25) (dst := some 113) (g := some (51, true)) (by kernel_rfl) (by kernel_rfl) (by kernel_rfl) (fun wx hbx => (x_lds (E := eSapi_Regs) (off := 0) (p := ad48) (cs := (eSapi_Regs.enc (t43 : Sapi_Regs))) ((Rd.of_own (hw.up 1)).below hbx) (one_ok (t43 : Sapi_Regs)).1 (one_ok (t43 : Sapi_Regs)).2 (by kernel_rfl) (one_at _ _) (by kernel_rfl) (by kernel_rfl) (by kernel_rfl))) [3, 8, 9, 14, 16, 112, 113] (L' := [(3, .pointer (some ad2)), (8, .int .i64 y13), (9, .int .i64 (w64 (band .u8 a2 15))), (14, .pointer (some ad48)), (16, .pointer (some ad61)), (112, .bool true), (113, .agg (eSapi_Regs.enc (t43 : Sapi_Regs)).toArray)]) (by kernel_rfl) ?_
          clear hs; intro a hs
          refine q_run hs (op := (Op.load 25 (Operand.tmp 3))) (ty := 25) (dst := some 114) (g := some (51, true)) (by kernel_rfl) (by kernel_rfl) (by kernel_rfl) (fun wx hbx => (x_lds (E := eSapi_Regs) (off := 0) (p := ad2) (cs := (eSapi_Regs.enc a0)) ((Rd.of_own (hw.up 4)).below hbx) (one_ok a0).1 (one_ok a0).2 (by kernel_rfl) (one_at _ _) (by kernel_rfl) (by kernel_rfl) (by kernel_rfl))) [3, 8, 9, 14, 16, 112, 113, 114] (L' := [(3, .pointer (some ad2)), (8, .int .i64 y13), (9, .int .i64 (w64 (band .u8 a2 15))), (14, .pointer (some ad48)), (16, .pointer (some ad61)), (112, .bool true), (113, .agg (eSapi_Regs.enc (t43 : Sapi_Regs)).toArray), (114, .agg (eSapi_Regs.enc a0).toArray)]) (by kernel_rfl) ?_
          clear hs; intro a hs
          refine q_pvs 54 56 [3, 8, 9, 14, 16, 112, 113, 114, 115, 116] hs (L' := [(3, .pointer (some ad2)), (8, .int .i64 y13), (9, .int .i64 (w64 (band .u8 a2 15))), (14, .pointer (some ad48)), (16, .pointer (some ad61)), (112, .bool true), (113, .agg (eSapi_Regs.enc (t43 : Sapi_Regs)).toArray), (114, .agg (eSapi_Regs.enc a0).toArray), (115, .int .i64 (w64 (band .u8 a2 15))), (116, .pointer (some ((ad2 : Addr).add 0)))]) (by kernel_rfl) ?_ rfl
          clear hs; intro a hs
          obtain ⟨hp79, H⟩ := ite_only H
          refine q_run hs (op := (Op.indexAddr 23 (Operand.tmp 116) (Operand.tmp 115))) (ty := 0) (dst := some 117) (g := some (51, true)) (by kernel_rfl) (by kernel_rfl) (by kernel_rfl) (fun wx hbx => (x_vidx (e := 22) (p := (ad2 : Addr).add 0) (n := 16) (k := .i64) (i := (w64 (band .u8 a2 15))) (sz := 1) (by kernel_rfl) (by kernel_rfl) (by kernel_rfl) (by kernel_rfl) hp79.1 hp79.2)) [3, 8, 9, 14, 16, 112, 113, 114, 117] (L' := [(3, .pointer (some ad2)), (8, .int .i64 y13), (9, .int .i64 (w64 (band .u8 a2 15))), (14, .pointer (some ad48)), (16, .pointer (some ad61)), (112, .bool true), (113, .agg (eSapi_Regs.enc (t43 : Sapi_Regs)).toArray), (114, .agg (eSapi_Regs.enc a0).toArray), (117, .pointer (some (((ad2 : Addr).add 0 : Addr).add ((w64 (band .u8 a2 15) : Int).toNat * 1))))]) (by kernel_rfl) ?_
          clear hs; intro a hs
          refine q_run hs (op := (Op.load 22 (Operand.tmp 117))) (ty := 22) (dst := some 118) (g := some (51, true)) (by kernel_rfl) (by kernel_rfl) (by kernel_rfl) (fun wx hbx => (x_ld (E := eSapi_Regs) (off := 0 + (w64 (band .u8 a2 15) : Int).toNat * 1) (p := ((ad2 : Addr).add 0 : Addr).add ((w64 (band .u8 a2 15) : Int).toNat * 1)) (v := .int .u32 (vx 0 a0.R (w64 (band .u8 a2 15) : Int).toNat)) ((Rd.of_own (hw.up 4)).below hbx) (one_ok a0).1 (one_ok a0).2 (by kernel_rfl) (by simp only [add_add', Int.toNat_zero, Nat.zero_mul, Nat.zero_add, Nat.mul_one] <;> rfl) (by kernel_rfl) (vget (cs := eSapi_Regs.enc a0) (pre := []) (post := [.int .u32 a0.H, .bool a0.N, .bool a0.Z, .bool a0.C, .bool a0.V]) (f := (fun j : Nat => .int .u32 (vx 0 a0.R j))) (n := 16) (o := 0) (i := (w64 (band .u8 a2 15) : Int).toNat) (by kernel_rfl) rfl (by have := hp79; omega)))) [3, 8, 9, 14, 16, 112, 113, 114, 118] (L' := [(3, .pointer (some ad2)), (8, .int .i64 y13), (9, .int .i64 (w64 (band .u8 a2 15))), (14, .pointer (some ad48)), (16, .pointer (some ad61)), (112, .bool true), (113, .agg (eSapi_Regs.enc (t43 : Sapi_Regs)).toArray), (114, .agg (eSapi_Regs.enc a0).toArray), (118, .int .u32 (vx 0 a0.R (w64 (band .u8 a2 15) : Int).toNat))]) (by kernel_rfl) ?_
          clear hs; intro a hs
          obtain ⟨t81, hx82, H⟩ := bind_some H
          refine q_call hs (op := (Op.call { callee := (Callee.value (Operand.func 13)), args := #[(Operand.tmp 114), (Operand.tmp 118)], argTypes := #[25, 22] })) (ty := 25) (dst := some 119) (g := some (51, true)) (by kernel_rfl) (by kernel_rfl) (by kernel_rfl) (f := 13) (args := #[.agg (eSapi_Regs.enc a0).toArray, .int .u32 (vx 0 a0.R (w64 (band .u8 a2 15) : Int).toNat)]) (v := .agg (eSapi_Regs.enc t81).toArray) (by kernel_rfl) (fun wx hbx => (alu_Show.calls a0 (vx 0 a0.R (w64 (band .u8 a2 15) : Int).toNat) t81 _ hx82).mono ?_) [3, 8, 9, 14, 16, 112, 113, 119] (L' := [(3, .pointer (some ad2)), (8, .int .i64 y13), (9, .int .i64 (w64 (band .u8 a2 15))), (14, .pointer (some ad48)), (16, .pointer (some ad61)), (112, .bool true), (113, .agg (eSapi_Regs.enc (t43 : Sapi_Regs)).toArray), (119, .agg (eSapi_Regs.enc t81).toArray)]) (by kernel_rfl) ?_
          · rintro e wy ⟨rfl, hwy⟩
            exact ⟨rfl, below_st hbx hwy⟩
          clear hs; intro a hs
          refine q_run hs (op := (Op.binOp BinOp.eql 25 (Operand.tmp 113) (Operand.tmp 119) 25)) (ty := 4) (dst := some 120) (g := some (51, true)) (by kernel_rfl) (by kernel_rfl) (by kernel_rfl) (fun wx hbx => (x_eql (xs := (eSapi_Regs.enc (t43 : Sapi_Regs)).toArray) (ys := (eSapi_Regs.enc t81).toArray) (r := ((decide (((t43 : Sapi_Regs).R) = t81.R)) && ((((t43 : Sapi_Regs).H) == t81.H) && ((((t43 : Sapi_Regs).N) == t81.N) && ((((t43 : Sapi_Regs).Z) == t81.Z) && ((((t43 : Sapi_Regs).C) == t81.C) && ((((t43 : Sapi_Regs).V) == t81.V) && true))))))) (by kernel_rfl) (by kernel_rfl) (by kernel_rfl) (eq_struct Try.underlying25 (by kernel_rfl) (eq_cons (a := .agg (eA23.enc ((t43 : Sapi_Regs).R)).toArray) (b := .agg (eA23.enc t81.R).toArray) (r := (decide (((t43 : Sapi_Regs).R) = t81.R))) (s := ((((t43 : Sapi_Regs).H) == t81.H) && ((((t43 : Sapi_Regs).N) == t81.N) && ((((t43 : Sapi_Regs).Z) == t81.Z) && ((((t43 : Sapi_Regs).C) == t81.C) && ((((t43 : Sapi_Regs).V) == t81.V) && true)))))) (by kernel_rfl) (part_pv (by kernel_rfl)) (part_pv (by kernel_rfl)) (eq_vec (e := 22) (k' := .u32) (k := .u32) ((t43 : Sapi_Regs).R) t81.R (by kernel_rfl) (by kernel_rfl) (by kernel_rfl) (by kernel_rfl) (by kernel_rfl)) (eq_cons (a := .int .u32 ((t43 : Sapi_Regs).H)) (b := .int .u32 t81.H) (r := (((t43 : Sapi_Regs).H) == t81.H)) (s := ((((t43 : Sapi_Regs).N) == t81.N) && ((((t43 : Sapi_Regs).Z) == t81.Z) && ((((t43 : Sapi_Regs).C) == t81.C) && ((((t43 : Sapi_Regs).V) == t81.V) && true))))) (by kernel_rfl) (part_pv (by kernel_rfl)) (part_pv (by kernel_rfl)) (eq_pv (by kernel_rfl)) (eq_cons (a := .bool ((t43 : Sapi_Regs).N)) (b := .bool t81.N) (r := (((t43 : Sapi_Regs).N) == t81.N)) (s := ((((t43 : Sapi_Regs).Z) == t81.Z) && ((((t43 : Sapi_Regs).C) == t81.C) && ((((t43 : Sapi_Regs).V) == t81.V) && true)))) (by kernel_rfl) (part_pv (by kernel_rfl)) (part_pv (by kernel_rfl)) (eq_pv (by kernel_rfl)) (eq_cons (a := .bool ((t43 : Sapi_Regs).Z)) (b := .bool t81.Z) (r := (((t43 : Sapi_Regs).Z) == t81.Z)) (s := ((((t43 : Sapi_Regs).C) == t81.C) && ((((t43 : Sapi_Regs).V) == t81.V) && true))) (by kernel_rfl) (part_pv (by kernel_rfl)) (part_pv (by kernel_rfl)) (eq_pv (by kernel_rfl)) (eq_cons (a := .bool ((t43 : Sapi_Regs).C)) (b := .bool t81.C) (r := (((t43 : Sapi_Regs).C) == t81.C)) (s := ((((t43 : Sapi_Regs).V) == t81.V) && true)) (by kernel_rfl) (part_pv (by kernel_rfl)) (part_pv (by kernel_rfl)) (eq_pv (by kernel_rfl)) (eq_cons (a := .bool ((t43 : Sapi_Regs).V)) (b := .bool t81.V) (r := (((t43 : Sapi_Regs).V) == t81.V)) (s := true) (by kernel_rfl) (part_pv (by kernel_rfl)) (part_pv (by kernel_rfl)) (eq_pv (by kernel_rfl)) eq_nil))))))))) [3, 8, 9, 14, 16, 112, 120] (L' := [(3, .pointer (some ad2)), (8, .int .i64 y13), (9, .int .i64 (w64 (band .u8 a2 15))), (14, .pointer (some ad48)), (16, .pointer (some ad61)), (112, .bool true), (120, .bool ((decide (((t43 : Sapi_Regs).R) = t81.R)) && ((((t43 : Sapi_Regs).H) == t81.H) && ((((t43 : Sapi_Regs).N) == t81.N) && ((((t43 : Sapi_Regs).Z) == t81.Z) && ((((t43 : Sapi_Regs).C) == t81.C) && ((((t43 : Sapi_Regs).V) == t81.V) && true)))))))]) (by kernel_rfl) ?_
          clear hs; intro a hs
          refine q_pvs 60 62 [3, 8, 9, 14, 16, 122] hs (L' := [(3, .pointer (some ad2)), (8, .int .i64 y13), (9, .int .i64 (w64 (band .u8 a2 15))), (14, .pointer (some ad48)), (16, .pointer (some ad61)), (122, .bool ((decide (((t43 : Sapi_Regs).R) = t81.R)) && ((((t43 : Sapi_Regs).H) == t81.H) && ((((t43 : Sapi_Regs).N) == t81.N) && ((((t43 : Sapi_Regs).Z) == t81.Z) && ((((t43 : Sapi_Regs).C) == t81.C) && ((((t43 : Sapi_Regs).V) == t81.V) && true)))))))]) (by kernel_rfl) ?_ rfl
          clear hs; intro a hs
          cases hb83 : ((decide (((t43 : Sapi_Regs).R) = t81.R)) && ((((t43 : Sapi_Regs).H) == t81.H) && ((((t43 : Sapi_Regs).N) == t81.N) && ((((t43 : Sapi_Regs).Z) == t81.Z) && ((((t43 : Sapi_Regs).C) == t81.C) && ((((t43 : Sapi_Regs).V) == t81.V) && true))))))
          ·replace H := ite_f H (ff hb83)
           rw [hb83] at hs
           refine q_pvs 62 98 [6] hs (L' := [(6, .bool false)]) (by kernel_rfl) ?_ rfl
           clear hs; intro a hs
           refine q_end (by kernel_rfl) ?_
           intro wq hbq
           replace hw := hw.behind hbq
           replace hw := hw.up 4
           replace hw := hw.up 4
           replace hw := hw.up 4
           replace hw := hw.up 4
           replace hw := hw.up 4
           replace hw := hw.only 5
           exact hJ1 false _ _ (hs.keep [6] (by kernel_rfl)) hw H
          ·replace H := ite_t H hb83
           rw [hb83] at hs
           refine q_pvs 62 64 [3, 8, 14, 122, 123, 124] hs (L' := [(3, .pointer (some ad2)), (8, .int .i64 y13), (14, .pointer (some ad48)), (122, .bool true), (123, .int .i64 (w64 (band .u8 a2 15))), (124, .pointer (some ((ad61 : Addr).add 0)))]) (by kernel_rfl) ?_ rfl
           clear hs; intro a hs
           obtain ⟨hp84, H⟩ := ite_only H
           refine q_run hs (op := (Op.indexAddr 23 (Operand.tmp 124) (Operand.tmp 123))) (ty := 0) (dst := some 125) (g := some (61, true)) (by kernel_rfl) (by kernel_rfl) (by kernel_rfl) (fun wx hbx => (x_vidx (e := 22) (p := (ad61 : Addr).add 0) (n := 16) (k := .i64) (i := (w64 (band .u8 a2 15))) (sz := 1) (by kernel_rfl) (by kernel_rfl) (by kernel_rfl) (by kernel_rfl) hp84.1 hp84.2)) [3, 8, 14, 122, 125] (L' := [(3, .pointer (some ad2)), (8, .int .i64 y13), (14, .pointer (some ad48)), (122, .bool true), (125, .pointer (some (((ad61 : Addr).add 0 : Addr).add ((w64 (band .u8 a2 15) : Int).toNat * 1))))]) (by kernel_rfl) ?_
           clear hs; intro a hs
           refine q_run hs (op := (Op.load 22 (Operand.tmp 125))) (ty := 22) (dst := some 126) (g := some (61, true)) (by kernel_rfl) (by kernel_rfl) (by kernel_rfl) (fun wx hbx => (x_ld (E := eSapi_Regs) (off := 0 + (w64 (band .u8 a2 15) : Int).toNat * 1) (p := ((ad61 : Addr).add 0 : Addr).add ((w64 (band .u8 a2 15) : Int).toNat * 1)) (v := .int .u32 (vx 0 ((t56 : Sapi_Regs).R) (w64 (band .u8 a2 15) : Int).toNat)) ((Rd.of_own (hw.up 0)).below hbx) (one_ok (t56 : Sapi_Regs)).1 (one_ok (t56 : Sapi_Regs)).2 (by kernel_rfl) (by simp only [add_add', Int.toNat_zero, Nat.zero_mul, Nat.zero_add, Nat.mul_one] <;> rfl) (by kernel_rfl) (vget (cs := eSapi_Regs.enc (t56 : Sapi_Regs)) (pre := []) (post := [.int .u32 ((t56 : Sapi_Regs).H), .bool ((t56 : Sapi_Regs).N), .bool ((t56 : Sapi_Regs).Z), .bool ((t56 : Sapi_Regs).C), .bool ((t56 : Sapi_Regs).V)]) (f := (fun j : Nat => .int .u32 (vx 0 ((t56 : Sapi_Regs).R) j))) (n := 16) (o := 0) (i := (w64 (band .u8 a2 15) : Int).toNat) (by kernel_rfl) rfl (by have := hp84; omega)))) [3, 8, 14, 122, 126] (L' := [(3, .pointer (some ad2)), (8, .int .i64 y13), (14, .pointer (some ad48)), (122, .bool true), (126, .int .u32 (vx 0 ((t56 : Sapi_Regs).R) (w64 (band .u8 a2 15) : Int).toNat))]) (by kernel_rfl) ?_
           clear hs; intro a hs
           refine q_pvs 66 77 [3, 14, 137] hs (L' := [(3, .pointer (some ad2)), (14, .pointer (some ad48)), (137, .bool ((vx 0 ((t56 : Sapi_Regs).R) (w64 (band .u8 a2 15) : Int).toNat) == (wu32 ((wu32 ((wu32 (band .i64 y13 65535)) * 2 ^ 16)) + (wu32 (band .i64 y13 65535))))))]) (by kernel_rfl) ?_ rfl
           clear hs; intro a hs
           cases hb85 : ((vx 0 ((t56 : Sapi_Regs).R) (w64 (band .u8 a2 15) : Int).toNat) == (wu32 ((wu32 ((wu32 (band .i64 y13 65535)) * 2 ^ 16)) + (wu32 (band .i64 y13 65535)))))
           ·replace H := ite_f H (beq_eq_false_iff_ne.1 hb85)
            rw [hb85] at hs
            refine q_pvs 77 98 [6] hs (L' := [(6, .bool false)]) (by kernel_rfl) ?_ rfl
            clear hs; intro a hs
            refine q_end (by kernel_rfl) ?_
            intro wq hbq
            replace hw := hw.behind hbq
            replace hw := hw.up 4
            replace hw := hw.up 4
            replace hw := hw.up 4
            replace hw := hw.up 4
            replace hw := hw.up 4
            replace hw := hw.only 5
            exact hJ1 false _ _ (hs.keep [6] (by kernel_rfl)) hw H
           ·replace H := ite_t H (beq_iff_eq.1 hb85)
            rw [hb85] at hs
            refine q_pvs 77 78 [3, 14, 137, 138] hs (L' := [(3, .pointer (some ad2)), (14, .pointer (some ad48)), (137, .bool true), (138, .pointer (some ((ad48 : Addr).add 19)))]) (by kernel_rfl) ?_ rfl
            clear hs; intro a hs
            refine q_run hs (op := (Op.load 4 (Operand.tmp 138))) (ty := 4) (dst := some 139) (g := some (76, true)) (by kernel_rfl) (by kernel_rfl) (by kernel_rfl) (fun wx hbx => (x_ld (E := eSapi_Regs) (off := 19) (p := (ad48 : Addr).add 19) (v := .bool ((t43 : Sapi_Regs).C)) ((Rd.of_own (hw.up 1)).below hbx) (one_ok (t43 : Sapi_Regs)).1 (one_ok (t43 : Sapi_Regs)).2 (by kernel_rfl) (one_off _ _ _) (by kernel_rfl) (by kernel_rfl))) [3, 14, 137, 139] (L' := [(3, .pointer (some ad2)), (14, .pointer (some ad48)), (137, .bool true), (139, .bool ((t43 : Sapi_Regs).C))]) (by kernel_rfl) ?_
            clear hs; intro a hs
            refine q_pvs 79 80 [3, 14, 137, 139, 140] hs (L' := [(3, .pointer (some ad2)), (14, .pointer (some ad48)), (137, .bool true), (139, .bool ((t43 : Sapi_Regs).C)), (140, .pointer (some ((ad2 : Addr).add 19)))]) (by kernel_rfl) ?_ rfl
            clear hs; intro a hs
            refine q_run hs (op := (Op.load 4 (Operand.tmp 140))) (ty := 4) (dst := some 141) (g := some (76, true)) (by kernel_rfl) (by kernel_rfl) (by kernel_rfl) (fun wx hbx => (x_ld (E := eSapi_Regs) (off := 19) (p := (ad2 : Addr).add 19) (v := .bool a0.C) ((Rd.of_own (hw.up 4)).below hbx) (one_ok a0).1 (one_ok a0).2 (by kernel_rfl) (one_off _ _ _) (by kernel_rfl) (by kernel_rfl))) [3, 14, 137, 139, 141] (L' := [(3, .pointer (some ad2)), (14, .pointer (some ad48)), (137, .bool true), (139, .bool ((t43 : Sapi_Regs).C)), (141, .bool a0.C)]) (by kernel_rfl) ?_
            clear hs; intro a hs
            refine q_pvs 81 84 [3, 14, 144] hs (L' := [(3, .pointer (some ad2)), (14, .pointer (some ad48)), (144, .bool (((t43 : Sapi_Regs).C) == a0.C))]) (by kernel_rfl) ?_ rfl
            clear hs; intro a hs
            cases hb86 : (((t43 : Sapi_Regs).C) == a0.C)
            ·replace H := ite_f H (ff hb86)
             rw [hb86] at hs
             refine q_pvs 84 98 [6] hs (L' := [(6, .bool false)]) (by kernel_rfl) ?_ rfl
             clear hs; intro a hs
             refine q_end (by kernel_rfl) ?_
             intro wq hbq
             replace hw := hw.behind hbq
             replace hw := hw.up 4
             replace hw := hw.up 4
             replace hw := hw.up 4
             replace hw := hw.up 4
             replace hw := hw.up 4
             replace hw := hw.only 5
             exact hJ1 false _ _ (hs.keep [6] (by kernel_rfl)) hw H
            ·replace H := ite_t H hb86
             rw [hb86] at hs
             refine q_pvs 84 85 [3, 14, 144, 145] hs (L' := [(3, .pointer (some ad2)), (14, .pointer (some ad48)), (144, .bool true), (145, .pointer (some ((ad48 : Addr).add 20)))]) (by kernel_rfl) ?_ rfl
             clear hs; intro a hs
             refine q_run hs (op := (Op.load 4 (Operand.tmp 145))) (ty := 4) (dst := some 146) (g := some (83, true)) (by kernel_rfl) (by kernel_rfl) (by kernel_rfl) (fun wx hbx => (x_ld (E := eSapi_Regs) (off := 20) (p := (ad48 : Addr).add 20) (v := .bool ((t43 : Sapi_Regs).V)) ((Rd.of_own (hw.up 1)).below hbx) (one_ok (t43 : Sapi_Regs)).1 (one_ok (t43 : Sapi_Regs)).2 (by kernel_rfl) (one_off _ _ _) (by kernel_rfl) (by kernel_rfl))) [3, 14, 144, 146] (L' := [(3, .pointer (some ad2)), (14, .pointer (some ad48)), (144, .bool true), (146, .bool ((t43 : Sapi_Regs).V))]) (by kernel_rfl) ?_
             clear hs; intro a hs
             refine q_pvs 86 87 [3, 14, 144, 146, 147] hs (L' := [(3, .pointer (some ad2)), (14, .pointer (some ad48)), (144, .bool true), (146, .bool ((t43 : Sapi_Regs).V)), (147, .pointer (some ((ad2 : Addr).add 20)))]) (by kernel_rfl) ?_ rfl
             clear hs; intro a hs
             refine q_run hs (op := (Op.load 4 (Operand.tmp 147))) (ty := 4) (dst := some 148) (g := some (83, true)) (by kernel_rfl) (by kernel_rfl) (by kernel_rfl) (fun wx hbx => (x_ld (E := eSapi_Regs) (off := 20) (p := (ad2 : Addr).add 20) (v := .bool a0.V) ((Rd.of_own (hw.up 4)).below hbx) (one_ok a0).1 (one_ok a0).2 (by kernel_rfl) (one_off _ _ _) (by kernel_rfl) (by kernel_rfl))) [3, 14, 144, 146, 148] (L' := [(3, .pointer (some ad2)), (14, .pointer (some ad48)), (144, .bool true), (146, .bool ((t43 : Sapi_Regs).V)), (148, .bool a0.V)]) (by kernel_rfl) ?_
             clear hs; intro a hs
             refine q_pvs 88 91 [3, 14, 151] hs (L' := [(3, .pointer (some ad2)), (14, .pointer (some ad48)), (151, .bool (((t43 : Sapi_Regs).V) == a0.V))]) (by kernel_rfl) ?_ rfl
             clear hs; intro a hs
             cases hb87 : (((t43 : Sapi_Regs).V) == a0.V)
             ·replace H := ite_f H (ff hb87)
              rw [hb87] at hs
              refine q_pvs 91 98 [6] hs (L' := [(6, .bool false)]) (by kernel_rfl) ?_ rfl
              clear hs; intro a hs
              refine q_end (by kernel_rfl) ?_
              intro wq hbq
              replace hw := hw.behind hbq
              replace hw := hw.up 4
              replace hw := hw.up 4
              replace hw := hw.up 4
              replace hw := hw.up 4
              replace hw := hw.up 4
              replace hw := hw.only 5
              exact hJ1 false _ _ (hs.keep [6] (by kernel_rfl)) hw H
             ·replace H := ite_t H hb87
              rw [hb87] at hs
              refine q_pvs 91 92 [3, 151, 152] hs (L' := [(3, .pointer (some ad2)), (151, .bool true), (152, .pointer (some ((ad48 : Addr).add 16)))]) (by kernel_rfl) ?_ rfl
              clear hs; intro a hs
              refine q_run hs (op := (Op.load 22 (Operand.tmp 152))) (ty := 22) (dst := some 153) (g := some (90, true)) (by kernel_rfl) (by kernel_rfl) (by kernel_rfl) (fun wx hbx => (x_ld (E := eSapi_Regs) (off := 16) (p := (ad48 : Addr).add 16) (v := .int .u32 ((t43 : Sapi_Regs).H)) ((Rd.of_own (hw.up 1)).below hbx) (one_ok (t43 : Sapi_Regs)).1 (one_ok (t43 : Sapi_Regs)).2 (by kernel_rfl) (one_off _ _ _) (by kernel_rfl) (by kernel_rfl))) [3, 151, 153] (L' := [(3, .pointer (some ad2)), (151, .bool true), (153, .int .u32 ((t43 : Sapi_Regs).H))]) (by kernel_rfl) ?_
              clear hs; intro a hs
              refine q_pvs 93 94 [151, 153, 154] hs (L' := [(151, .bool true), (153, .int .u32 ((t43 : Sapi_Regs).H)), (154, .pointer (some ((ad2 : Addr).add 16)))]) (by kernel_rfl) ?_ rfl
              clear hs; intro a hs
              refine q_run hs (op := (Op.load 22 (Operand.tmp 154))) (ty := 22) (dst := some 155) (g := some (90, true)) (by kernel_rfl) (by kernel_rfl) (by kernel_rfl) (fun wx hbx => (x_ld (E := eSapi_Regs) (off := 16) (p := (ad2 : Addr).add 16) (v := .int .u32 a0.H) ((Rd.of_own (hw.up 4)).below hbx) (one_ok a0).1 (one_ok a0).2 (by kernel_rfl) (one_off _ _ _) (by kernel_rfl) (by kernel_rfl))) [151, 153, 155] (L' := [(151, .bool true), (153, .int .u32 ((t43 : Sapi_Regs).H)), (155, .int .u32 a0.H)]) (by kernel_rfl) ?_
              clear hs; intro a hs
              refine q_pvs 95 98 [6] hs (L' := [(6, .bool (((t43 : Sapi_Regs).H) == a0.H))]) (by kernel_rfl) ?_ rfl
              clear hs; intro a hs
              refine q_end (by kernel_rfl) ?_
              intro wq hbq
              replace hw := hw.behind hbq
              replace hw := hw.up 4
              replace hw := hw.up 4
              replace hw := hw.up 4
              replace hw := hw.up 4
              replace hw := hw.up 4
              replace hw := hw.only 5
              exact hJ1 (((t43 : Sapi_Regs).H) == a0.H) _ _ (hs.keep [6] (by kernel_rfl)) hw H

end Go.Proofs.Ytckefpenekolhaa.T04
