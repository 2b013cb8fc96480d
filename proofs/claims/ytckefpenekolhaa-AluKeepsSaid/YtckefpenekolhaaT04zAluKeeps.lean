/- YtckefpenekolhaaT04zAluKeeps: Go functions told as plain ones, each with a proof that its call comes to what is told, part 1. Condition of each: that the plain function comes to a value. -/
import Derived.Test.YtckefpenekolhaaT04
import Derived.Test.YtckefpenekolhaaEJ
import Derived.Test.YtckefpenekolhaaProg
namespace Go.Proofs.Ytckefpenekolhaa.T04
open Go Go.RowKit Go.Proofs.Ytckefpenekolhaa.E
set_option linter.unusedVariables false
set_option linter.unusedSimpArgs false
def eA23 : Enc (Vector Int 16) := ⟨16, fun x => [.int .u32 (vx 0 x 0), .int .u32 (vx 0 x 1), .int .u32 (vx 0 x 2), .int .u32 (vx 0 x 3), .int .u32 (vx 0 x 4), .int .u32 (vx 0 x 5), .int .u32 (vx 0 x 6), .int .u32 (vx 0 x 7), .int .u32 (vx 0 x 8), .int .u32 (vx 0 x 9), .int .u32 (vx 0 x 10), .int .u32 (vx 0 x 11), .int .u32 (vx 0 x 12), .int .u32 (vx 0 x 13), .int .u32 (vx 0 x 14), .int .u32 (vx 0 x 15)], (Vector.replicate 16 0), by decide, fun _ => rfl, fun x u hu => by simp at hu; rcases hu with rfl | rfl | rfl | rfl | rfl | rfl | rfl | rfl | rfl | rfl | rfl | rfl | rfl | rfl | rfl | rfl <;> rfl⟩
/-! rivet/rivetlaw04.AluKeeps: function 3 -/
noncomputable def rivetlaw04_AluKeeps.j3 (v55 : Bool) : Option Bool := some v55
noncomputable def rivetlaw04_AluKeeps.j10 (v103 : Bool) : Option Bool := some v103
noncomputable def rivetlaw04_AluKeeps.j9 (t12 : Bool) (t18 : Sapi_Instr) (t30 : Sapi_Regs) (v96 : Sapi_Regs) : Option Bool := (if t12 = true then (if 0 ≤ ((t18 : Sapi_Instr).A) ∧ ((t18 : Sapi_Instr).A) < ((16 : Nat) : Int) then ((alu_Show v96 (vx 0 ((t30 : Sapi_Regs).R) ((t18 : Sapi_Instr).A : Int).toNat)).bind fun t101 => (rivetlaw04_AluKeeps.j10 ((decide (((t30 : Sapi_Regs).R) = t101.R)) && ((((t30 : Sapi_Regs).H) == t101.H) && ((((t30 : Sapi_Regs).N) == t101.N) && ((((t30 : Sapi_Regs).Z) == t101.Z) && ((((t30 : Sapi_Regs).C) == t101.C) && ((((t30 : Sapi_Regs).V) == t101.V) && true)))))))) else none) else rivetlaw04_AluKeeps.j10 false)
noncomputable def rivetlaw04_AluKeeps.j8 (t12 : Bool) (t18 : Sapi_Instr) (t30 : Sapi_Regs) (v82 : Sapi_Regs) (v88 : Bool) : Option Bool := (if v88 = true then rivetlaw04_AluKeeps.j9 t12 t18 t30 ({ ({ v82 with C := (t30 : Sapi_Regs).C } : Sapi_Regs) with V := (t30 : Sapi_Regs).V } : Sapi_Regs) else rivetlaw04_AluKeeps.j9 t12 t18 t30 v82)
noncomputable def rivetlaw04_AluKeeps.j7 (t18 : Sapi_Instr) (t12 : Bool) (t30 : Sapi_Regs) (v82 : Sapi_Regs) (v83 : Bool) : Option Bool := (if v83 = true then (if ((t18 : Sapi_Instr).Op) = 8 then rivetlaw04_AluKeeps.j8 t12 t18 t30 v82 true else rivetlaw04_AluKeeps.j8 t12 t18 t30 v82 (((t18 : Sapi_Instr).Op) == 9)) else rivetlaw04_AluKeeps.j8 t12 t18 t30 v82 false)
noncomputable def rivetlaw04_AluKeeps.j6 (t18 : Sapi_Instr) (t12 : Bool) (t30 : Sapi_Regs) (a0 : Sapi_Regs) (v76 : Bool) (v77 : Bool) : Option Bool := (if v77 = true then rivetlaw04_AluKeeps.j7 t18 t12 t30 ({ ({ (a0 : Sapi_Regs) with R := vset ((a0 : Sapi_Regs).R) ((t18 : Sapi_Instr).A : Int).toNat (vx 0 ((t30 : Sapi_Regs).R) ((t18 : Sapi_Instr).A : Int).toNat) } : Sapi_Regs) with H := (t30 : Sapi_Regs).H } : Sapi_Regs) v76 else rivetlaw04_AluKeeps.j7 t18 t12 t30 ({ (a0 : Sapi_Regs) with R := vset ((a0 : Sapi_Regs).R) ((t18 : Sapi_Instr).A : Int).toNat (vx 0 ((t30 : Sapi_Regs).R) ((t18 : Sapi_Instr).A : Int).toNat) } : Sapi_Regs) v76)
noncomputable def rivetlaw04_AluKeeps.j5 (t18 : Sapi_Instr) (t12 : Bool) (t30 : Sapi_Regs) (a0 : Sapi_Regs) (v71 : Bool) : Option Bool := (if v71 = true then (if ((t18 : Sapi_Instr).Op) = 10 then rivetlaw04_AluKeeps.j6 t18 t12 t30 a0 true true else rivetlaw04_AluKeeps.j6 t18 t12 t30 a0 true (((t18 : Sapi_Instr).Op) == 11)) else rivetlaw04_AluKeeps.j6 t18 t12 t30 a0 false false)
noncomputable def rivetlaw04_AluKeeps.j4 (t18 : Sapi_Instr) (t12 : Bool) (t30 : Sapi_Regs) (a0 : Sapi_Regs) : Option Bool := (if 0 ≤ ((t18 : Sapi_Instr).A) ∧ ((t18 : Sapi_Instr).A) < ((16 : Nat) : Int) then (if 0 ≤ ((t18 : Sapi_Instr).A) ∧ ((t18 : Sapi_Instr).A) < ((16 : Nat) : Int) then (if ((t18 : Sapi_Instr).Kind) = 1 then rivetlaw04_AluKeeps.j5 t18 t12 t30 a0 true else rivetlaw04_AluKeeps.j5 t18 t12 t30 a0 (((t18 : Sapi_Instr).Kind) == 2)) else none) else none)
noncomputable def rivetlaw04_AluKeeps.j2 (t12 : Bool) (t30 : Sapi_Regs) (a0 : Sapi_Regs) (t31 : Int) (t18 : Sapi_Instr) (v48 : Bool) : Option Bool := (if v48 = true then (if t12 = true then (if ((decide (((t30 : Sapi_Regs).R) = a0.R)) && ((((t30 : Sapi_Regs).H) == a0.H) && ((((t30 : Sapi_Regs).N) == a0.N) && ((((t30 : Sapi_Regs).Z) == a0.Z) && ((((t30 : Sapi_Regs).C) == a0.C) && ((((t30 : Sapi_Regs).V) == a0.V) && true)))))) = true then (if t31 = 0 then rivetlaw04_AluKeeps.j3 true else (if t31 = 5 then rivetlaw04_AluKeeps.j3 (((t18 : Sapi_Instr).Op) == 11) else rivetlaw04_AluKeeps.j3 false)) else rivetlaw04_AluKeeps.j3 false) else rivetlaw04_AluKeeps.j3 false) else rivetlaw04_AluKeeps.j4 t18 t12 t30 a0)
noncomputable def rivetlaw04_AluKeeps.j1 (t31 : Int) (t12 : Bool) (t30 : Sapi_Regs) (a0 : Sapi_Regs) (t18 : Sapi_Instr) (v44 : Bool) : Option Bool := (if t31 = 0 then rivetlaw04_AluKeeps.j2 t12 t30 a0 t31 t18 v44 else rivetlaw04_AluKeeps.j2 t12 t30 a0 t31 t18 true)
noncomputable def rivetlaw04_AluKeeps (a0 : Sapi_Regs) (a1 : Sapi_Instr) : Option Bool := ((rivetlaw04_shown).bind fun t12 => (((rivetref03_Fit a1).bind fun t18 => (((alu_Do a0 (t18 : Sapi_Instr)).bind fun ⟨t30, t31⟩ => ((if ((t18 : Sapi_Instr).Kind) = 5 then rivetlaw04_AluKeeps.j1 t31 t12 t30 a0 t18 true else (if ((t18 : Sapi_Instr).Kind) = 6 then rivetlaw04_AluKeeps.j1 t31 t12 t30 a0 t18 true else rivetlaw04_AluKeeps.j1 t31 t12 t30 a0 t18 (((t18 : Sapi_Instr).Kind) == 7)))))))))
set_option maxRecDepth 100000 in
set_option maxHeartbeats 4000000 in
theorem rivetlaw04_AluKeeps.calls (a0 : Sapi_Regs) (a1 : Sapi_Instr) (r : Bool) (w0 : World) (H : rivetlaw04_AluKeeps a0 a1 = some r) :
    Calls Try.prog 3 #[.agg (eSapi_Regs.enc a0).toArray, .agg (eSapi_Instr.enc a1).toArray] w0 fun e w' => e = .returned (.bool r) ∧ St [] w0 w' [] := by
 have hw : St [] w0 w0 [] := St.nil w0
 unfold rivetlaw04_AluKeeps at H
 refine go_fn Try.func3 rfl 119 Try.ntmps3 [(0, .agg (eSapi_Regs.enc a0).toArray), (1, .agg (eSapi_Instr.enc a1).toArray)] (by kernel_rfl) rfl ?_
 intro a hs
 refine go_seq_k fun K1 hK1 => ?_
 refine go_region ?_
 obtain ⟨ad2, wd3, hx4, hw⟩ := x_box1 (P := Try.prog) (elem := 25) (v := (Operand.tmp 0)) (ty := 0) hs hw eSapi_Regs a0 (by kernel_rfl)
 refine go_run hs (op := (Op.box 25 (Operand.tmp 0))) (ty := 0) (dst := some 2) (g := none) (by kernel_rfl) (by kernel_rfl) (by kernel_rfl) hx4 [1, 2] (L' := [(1, .agg (eSapi_Instr.enc a1).toArray), (2, .pointer (some ad2))]) (by kernel_rfl) ?_
 clear hs; intro a hs
 obtain ⟨ad6, wd7, hx8, hw⟩ := x_box1 (P := Try.prog) (elem := 27) (v := (Operand.tmp 1)) (ty := 0) hs hw eSapi_Instr a1 (by kernel_rfl)
 refine go_run hs (op := (Op.box 27 (Operand.tmp 1))) (ty := 0) (dst := some 3) (g := none) (by kernel_rfl) (by kernel_rfl) (by kernel_rfl) hx8 [2, 3] (L' := [(2, .pointer (some ad2)), (3, .pointer (some ad6))]) (by kernel_rfl) ?_
 clear hs; intro a hs
 refine go_pvs 2 3 [2, 3] hs (L' := [(2, .pointer (some ad2)), (3, .pointer (some ad6))]) (by kernel_rfl) ?_ rfl
 clear hs; intro a hs
 refine go_end (by kernel_rfl) ?_
 refine hK1 _ _ ?_
 refine go_seq_k fun K10 hK10 => ?_
 refine go_region ?_
 obtain ⟨t12, hx13, H⟩ := bind_some H
 refine go_call hs (op := (Op.call { callee := (Callee.value (Operand.func 10)), args := #[], argTypes := #[] })) (ty := 4) (dst := some 12) (g := none) (by kernel_rfl) (by kernel_rfl) (by kernel_rfl) (f := 10) (args := #[]) (by kernel_rfl) (rivetlaw04_shown.calls t12 _ hx13) ?_
 rintro e wd14 ⟨rfl, hw15⟩
 refine ⟨_, rfl, ?_⟩
 replace hw := hw.call hw15
 intro a hs1
 replace hs : Slots a 119 [(2, .pointer (some ad2)), (3, .pointer (some ad6)), (12, .bool t12)] := hs1.keep [2, 3, 12] (by kernel_rfl)
 clear hs1
 refine go_pvs 1 2 [2, 3, 5] hs (L' := [(2, .pointer (some ad2)), (3, .pointer (some ad6)), (5, .bool t12)]) (by kernel_rfl) ?_ rfl
 clear hs; intro a hs
 refine go_end (by kernel_rfl) ?_
 refine hK10 _ _ ?_
 refine go_seq_k fun K16 hK16 => ?_
 refine go_region ?_
 refine go_run hs (op := (Op.load 27 (Operand.tmp 3))) (ty := 27) (dst := some 13) (g := none) (by kernel_rfl) (by kernel_rfl) (by kernel_rfl) (x_lds (E := eSapi_Instr) (off := 0) (p := ad6) (cs := (eSapi_Instr.enc a1)) (Rd.of_own (hw.up 0)) (one_ok a1).1 (one_ok a1).2 (by kernel_rfl) (one_at _ _) (by kernel_rfl) (by kernel_rfl) (by kernel_rfl)) [2, 5, 13] (L' := [(2, .pointer (some ad2)), (5, .bool t12), (13, .agg (eSapi_Instr.enc a1).toArray)]) (by kernel_rfl) ?_
 clear hs; intro a hs
 obtain ⟨t18, hx19, H⟩ := bind_some H
 refine go_call hs (op := (Op.call { callee := (Callee.value (Operand.func 11)), args := #[(Operand.tmp 13)], argTypes := #[27] })) (ty := 27) (dst := some 14) (g := none) (by kernel_rfl) (by kernel_rfl) (by kernel_rfl) (f := 11) (args := #[.agg (eSapi_Instr.enc a1).toArray]) (by kernel_rfl) (rivetref03_Fit.calls a1 t18 _ hx19) ?_
 rintro e wd20 ⟨rfl, hw21⟩
 refine ⟨_, rfl, ?_⟩
 replace hw := hw.call hw21
 intro a hs1
 replace hs : Slots a 119 [(2, .pointer (some ad2)), (5, .bool t12), (14, .agg (eSapi_Instr.enc t18).toArray)] := hs1.keep [2, 5, 14] (by kernel_rfl)
 clear hs1
 obtain ⟨ad22, wd23, hx24, hw⟩ := x_alloc1 (P := Try.prog) (elem := 27) (ty := 0) (z := .agg (eSapi_Instr.enc (⟨0, 0, 0, 0, 0, 0, false⟩ : Sapi_Instr)).toArray) hs hw eSapi_Instr (⟨0, 0, 0, 0, 0, 0, false⟩ : Sapi_Instr) (by kernel_rfl) (by kernel_rfl)
 refine go_run hs (op := (Op.alloc 27)) (ty := 0) (dst := some 6) (g := none) (by kernel_rfl) (by kernel_rfl) (by kernel_rfl) hx24 [2, 5, 6, 14] (L' := [(2, .pointer (some ad2)), (5, .bool t12), (6, .pointer (some ad22)), (14, .agg (eSapi_Instr.enc t18).toArray)]) (by kernel_rfl) ?_
 clear hs; intro a hs
 obtain ⟨wd26, hx27, hw⟩ := x_put (P := Try.prog) (ty := 0) (t := 27) (x := (Operand.tmp 6)) (y := (Operand.tmp 14)) (off := 0) (p := ad22) (v := .agg (eSapi_Instr.enc t18).toArray) (vs := (eSapi_Instr.enc t18)) (i := 0) (e' := ((t18 : Sapi_Instr) : Sapi_Instr)) hs hw rfl (one_ok (⟨0, 0, 0, 0, 0, 0, false⟩ : Sapi_Instr)).1 (one_ok (⟨0, 0, 0, 0, 0, 0, false⟩ : Sapi_Instr)).2 (by kernel_rfl) (one_at _ _) (by kernel_rfl) rfl (by kernel_rfl) (Nat.le_of_ble_eq_true rfl) (eSapi_Instr.one _) (by kernel_rfl)
 refine go_unit hs (op := (Op.store 27 (Operand.tmp 6) (Operand.tmp 14))) (ty := 0) (dst := none) (g := none) (by kernel_rfl) (by kernel_rfl) (by kernel_rfl) hx27 [2, 5, 6] (L' := [(2, .pointer (some ad2)), (5, .bool t12), (6, .pointer (some ad22))]) (by kernel_rfl) ?_
 clear hs; intro a hs
 replace hw : St [] w0 wd26 [own 27 eSapi_Instr (some ad22) 1 [(t18 : Sapi_Instr)], own 27 eSapi_Instr (some ad6) 1 [a1], own 25 eSapi_Regs (some ad2) 1 [a0]] := hw
 refine go_end (by kernel_rfl) ?_
 refine hK16 _ _ ?_
 refine go_seq_k fun K28 hK28 => ?_
 refine go_region ?_
 refine go_run hs (op := (Op.load 25 (Operand.tmp 2))) (ty := 25) (dst := some 16) (g := none) (by kernel_rfl) (by kernel_rfl) (by kernel_rfl) (x_lds (E := eSapi_Regs) (off := 0) (p := ad2) (cs := (eSapi_Regs.enc a0)) (Rd.of_own (hw.up 2)) (one_ok a0).1 (one_ok a0).2 (by kernel_rfl) (one_at _ _) (by kernel_rfl) (by kernel_rfl) (by kernel_rfl)) [2, 5, 6, 16] (L' := [(2, .pointer (some ad2)), (5, .bool t12), (6, .pointer (some ad22)), (16, .agg (eSapi_Regs.enc a0).toArray)]) (by kernel_rfl) ?_
 clear hs; intro a hs
 refine go_run hs (op := (Op.load 27 (Operand.tmp 6))) (ty := 27) (dst := some 17) (g := none) (by kernel_rfl) (by kernel_rfl) (by kernel_rfl) (x_lds (E := eSapi_Instr) (off := 0) (p := ad22) (cs := (eSapi_Instr.enc (t18 : Sapi_Instr))) (Rd.of_own (hw.up 0)) (one_ok (t18 : Sapi_Instr)).1 (one_ok (t18 : Sapi_Instr)).2 (by kernel_rfl) (one_at _ _) (by kernel_rfl) (by kernel_rfl) (by kernel_rfl)) [2, 5, 6, 16, 17] (L' := [(2, .pointer (some ad2)), (5, .bool t12), (6, .pointer (some ad22)), (16, .agg (eSapi_Regs.enc a0).toArray), (17, .agg (eSapi_Instr.enc (t18 : Sapi_Instr)).toArray)]) (by kernel_rfl) ?_
 clear hs; intro a hs
 obtain ⟨⟨t30, t31⟩, hx32, H⟩ := bind_some H
 refine go_call hs (op := (Op.call { callee := (Callee.value (Operand.func 12)), args := #[(Operand.tmp 16), (Operand.tmp 17)], argTypes := #[25, 27] })) (ty := 30) (dst := some 18) (g := none) (by kernel_rfl) (by kernel_rfl) (by kernel_rfl) (f := 12) (args := #[.agg (eSapi_Regs.enc a0).toArray, .agg (eSapi_Instr.enc (t18 : Sapi_Instr)).toArray]) (by kernel_rfl) (alu_Do.calls a0 (t18 : Sapi_Instr) (t30, t31) _ hx32) ?_
 rintro e wd33 ⟨rfl, hw34⟩
 refine ⟨_, rfl, ?_⟩
 replace hw := hw.call hw34
 intro a hs1
 replace hs : Slots a 119 [(2, .pointer (some ad2)), (5, .bool t12), (6, .pointer (some ad22)), (18, .tuple #[.agg (eSapi_Regs.enc t30).toArray, .int .i64 t31])] := hs1.keep [2, 5, 6, 18] (by kernel_rfl)
 clear hs1
 refine go_pvs 3 6 [2, 5, 6, 19, 20] hs (L' := [(2, .pointer (some ad2)), (5, .bool t12), (6, .pointer (some ad22)), (19, .agg (eSapi_Regs.enc t30).toArray), (20, .int .i64 t31)]) (by kernel_rfl) ?_ rfl
 clear hs; intro a hs
 obtain ⟨ad35, wd36, hx37, hw⟩ := x_alloc1 (P := Try.prog) (elem := 25) (ty := 0) (z := .agg (eSapi_Regs.enc (⟨(Vector.replicate 16 0), 0, false, false, false, false⟩ : Sapi_Regs)).toArray) hs hw eSapi_Regs (⟨(Vector.replicate 16 0), 0, false, false, false, false⟩ : Sapi_Regs) (by kernel_rfl) (by kernel_rfl)
 refine go_run hs (op := (Op.alloc 25)) (ty := 0) (dst := some 7) (g := none) (by kernel_rfl) (by kernel_rfl) (by kernel_rfl) hx37 [2, 5, 6, 7, 19, 20] (L' := [(2, .pointer (some ad2)), (5, .bool t12), (6, .pointer (some ad22)), (7, .pointer (some ad35)), (19, .agg (eSapi_Regs.enc t30).toArray), (20, .int .i64 t31)]) (by kernel_rfl) ?_
 clear hs; intro a hs
 obtain ⟨wd39, hx40, hw⟩ := x_put (P := Try.prog) (ty := 0) (t := 25) (x := (Operand.tmp 7)) (y := (Operand.tmp 19)) (off := 0) (p := ad35) (v := .agg (eSapi_Regs.enc t30).toArray) (vs := (eSapi_Regs.enc t30)) (i := 0) (e' := ((t30 : Sapi_Regs) : Sapi_Regs)) hs hw rfl (one_ok (⟨(Vector.replicate 16 0), 0, false, false, false, false⟩ : Sapi_Regs)).1 (one_ok (⟨(Vector.replicate 16 0), 0, false, false, false, false⟩ : Sapi_Regs)).2 (by kernel_rfl) (one_at _ _) (by kernel_rfl) rfl (by kernel_rfl) (Nat.le_of_ble_eq_true rfl) (eSapi_Regs.one _) (by kernel_rfl)
 refine go_unit hs (op := (Op.store 25 (Operand.tmp 7) (Operand.tmp 19))) (ty := 0) (dst := none) (g := none) (by kernel_rfl) (by kernel_rfl) (by kernel_rfl) hx40 [2, 5, 6, 7, 20] (L' := [(2, .pointer (some ad2)), (5, .bool t12), (6, .pointer (some ad22)), (7, .pointer (some ad35)), (20, .int .i64 t31)]) (by kernel_rfl) ?_
 clear hs; intro a hs
 replace hw : St [] w0 wd39 [own 25 eSapi_Regs (some ad35) 1 [(t30 : Sapi_Regs)], own 27 eSapi_Instr (some ad22) 1 [(t18 : Sapi_Instr)], own 27 eSapi_Instr (some ad6) 1 [a1], own 25 eSapi_Regs (some ad2) 1 [a0]] := hw
 refine go_pvs 8 9 [2, 5, 6, 7, 8] hs (L' := [(2, .pointer (some ad2)), (5, .bool t12), (6, .pointer (some ad22)), (7, .pointer (some ad35)), (8, .int .i64 t31)]) (by kernel_rfl) ?_ rfl
 clear hs; intro a hs
 refine go_end (by kernel_rfl) ?_
 refine hK28 _ _ ?_
 refine go_seq_k fun K41 hK41 => ?_
 have hJ1 : ∀ (v44 : Bool) (a : Act) (w : World), Slots a 119 [(2, .pointer (some ad2)), (5, .bool t12), (6, .pointer (some ad22)), (7, .pointer (some ad35)), (8, .int .i64 t31), (9, .bool v44)] → St [] w0 w [own 25 eSapi_Regs (some ad35) 1 [(t30 : Sapi_Regs)], own 27 eSapi_Instr (some ad22) 1 [(t18 : Sapi_Instr)], own 27 eSapi_Instr (some ad6) 1 [a1], own 25 eSapi_Regs (some ad2) 1 [a0]] → rivetlaw04_AluKeeps.j1 t31 t12 t30 a0 t18 v44 = some r → K41 a w := by
  intro v44 a w hs hw H
  unfold rivetlaw04_AluKeeps.j1 at H
  refine hK41 _ _ ?_
  refine go_seq_k fun K45 hK45 => ?_
  have hJ4 : ∀ (a : Act) (w : World), Slots a 119 [(2, .pointer (some ad2)), (5, .bool t12), (6, .pointer (some ad22)), (7, .pointer (some ad35))] → St [] w0 w [own 25 eSapi_Regs (some ad35) 1 [(t30 : Sapi_Regs)], own 27 eSapi_Instr (some ad22) 1 [(t18 : Sapi_Instr)], own 27 eSapi_Instr (some ad6) 1 [a1], own 25 eSapi_Regs (some ad2) 1 [a0]] → rivetlaw04_AluKeeps.j4 t18 t12 t30 a0 = some r → K45 a w := by
   intro a w hs hw H
   unfold rivetlaw04_AluKeeps.j4 at H
   refine hK45 _ _ ?_
   refine go_seq_k fun K57 hK57 => ?_
   refine go_region ?_
   refine go_run hs (op := (Op.load 25 (Operand.tmp 2))) (ty := 25) (dst := some 58) (g := none) (by kernel_rfl) (by kernel_rfl) (by kernel_rfl) (x_lds (E := eSapi_Regs) (off := 0) (p := ad2) (cs := (eSapi_Regs.enc a0)) (Rd.of_own (hw.up 3)) (one_ok a0).1 (one_ok a0).2 (by kernel_rfl) (one_at _ _) (by kernel_rfl) (by kernel_rfl) (by kernel_rfl)) [5, 6, 7, 58] (L' := [(5, .bool t12), (6, .pointer (some ad22)), (7, .pointer (some ad35)), (58, .agg (eSapi_Regs.enc a0).toArray)]) (by kernel_rfl) ?_
   clear hs; intro a hs
   obtain ⟨ad58, wd59, hx60, hw⟩ := x_alloc1 (P := Try.prog) (elem := 25) (ty := 0) (z := .agg (eSapi_Regs.enc (⟨(Vector.replicate 16 0), 0, false, false, false, false⟩ : Sapi_Regs)).toArray) hs hw eSapi_Regs (⟨(Vector.replicate 16 0), 0, false, false, false, false⟩ : Sapi_Regs) (by kernel_rfl) (by kernel_rfl)
   refine go_run hs (op := (Op.alloc 25)) (ty := 0) (dst := some 10) (g := none) (by kernel_rfl) (by kernel_rfl) (by kernel_rfl) hx60 [5, 6, 7, 10, 58] (L' := [(5, .bool t12), (6, .pointer (some ad22)), (7, .pointer (some ad35)), (10, .pointer (some ad58)), (58, .agg (eSapi_Regs.enc a0).toArray)]) (by kernel_rfl) ?_
   clear hs; intro a hs
   obtain ⟨wd62, hx63, hw⟩ := x_put (P := Try.prog) (ty := 0) (t := 25) (x := (Operand.tmp 10)) (y := (Operand.tmp 58)) (off := 0) (p := ad58) (v := .agg (eSapi_Regs.enc a0).toArray) (vs := (eSapi_Regs.enc a0)) (i := 0) (e' := ((a0 : Sapi_Regs) : Sapi_Regs)) hs hw rfl (one_ok (⟨(Vector.replicate 16 0), 0, false, false, false, false⟩ : Sapi_Regs)).1 (one_ok (⟨(Vector.replicate 16 0), 0, false, false, false, false⟩ : Sapi_Regs)).2 (by kernel_rfl) (one_at _ _) (by kernel_rfl) rfl (by kernel_rfl) (Nat.le_of_ble_eq_true rfl) (eSapi_Regs.one _) (by kernel_rfl)
   refine go_unit hs (op := (Op.store 25 (Operand.tmp 10) (Operand.tmp 58))) (ty := 0) (dst := none) (g := none) (by kernel_rfl) (by kernel_rfl) (by kernel_rfl) hx63 [5, 6, 7, 10] (L' := [(5, .bool t12), (6, .pointer (some ad22)), (7, .pointer (some ad35)), (10, .pointer (some ad58))]) (by kernel_rfl) ?_
   clear hs; intro a hs
   replace hw : St [] w0 wd62 [own 25 eSapi_Regs (some ad58) 1 [(a0 : Sapi_Regs)], own 25 eSapi_Regs (some ad35) 1 [(t30 : Sapi_Regs)], own 27 eSapi_Instr (some ad22) 1 [(t18 : Sapi_Instr)], own 27 eSapi_Instr (some ad6) 1 [a1], own 25 eSapi_Regs (some ad2) 1 [a0]] := hw
   refine go_end (by kernel_rfl) ?_
   refine hK57 _ _ ?_
   refine go_seq_k fun K64 hK64 => ?_
   refine z_region [0, 1, 2, 3, 4, 5, 6, 7, 8] [9] [] (by kernel_rfl) (by kernel_rfl) (fun c a d v w h => by cases d <;> exact h) ?_
   refine z_pvs [0] [1, 2, 3, 4, 5, 6, 7, 8] [5, 6, 7, 10, 59] hs (L' := [(5, .bool t12), (6, .pointer (some ad22)), (7, .pointer (some ad35)), (10, .pointer (some ad58)), (59, .pointer (some ((ad22 : Addr).add 2)))]) (by kernel_rfl) ?_ (by kernel_rfl)
   clear hs; intro a hs
   refine z_run hs (op := (Op.load 3 (Operand.tmp 59))) (ty := 3) (dst := some 60) (g := none) (by kernel_rfl) (by kernel_rfl) (by kernel_rfl) (fun wx hbx => (x_ld (E := eSapi_Instr) (off := 2) (p := (ad22 : Addr).add 2) (v := .int .i64 ((t18 : Sapi_Instr).A)) ((Rd.of_own (hw.up 2)).below hbx) (one_ok (t18 : Sapi_Instr)).1 (one_ok (t18 : Sapi_Instr)).2 (by kernel_rfl) (one_off _ _ _) (by kernel_rfl) (by kernel_rfl))) [5, 6, 7, 10, 60] (L' := [(5, .bool t12), (6, .pointer (some ad22)), (7, .pointer (some ad35)), (10, .pointer (some ad58)), (60, .int .i64 ((t18 : Sapi_Instr).A))]) (by kernel_rfl) ?_
   clear hs; intro a hs
   refine z_pvs [2] [3, 4, 5, 6, 7, 8] [5, 6, 7, 10, 60, 61] hs (L' := [(5, .bool t12), (6, .pointer (some ad22)), (7, .pointer (some ad35)), (10, .pointer (some ad58)), (60, .int .i64 ((t18 : Sapi_Instr).A)), (61, .pointer (some ((ad22 : Addr).add 2)))]) (by kernel_rfl) ?_ (by kernel_rfl)
   clear hs; intro a hs
   refine z_run hs (op := (Op.load 3 (Operand.tmp 61))) (ty := 3) (dst := some 62) (g := none) (by kernel_rfl) (by kernel_rfl) (by kernel_rfl) (fun wx hbx => (x_ld (E := eSapi_Instr) (off := 2) (p := (ad22 : Addr).add 2) (v := .int .i64 ((t18 : Sapi_Instr).A)) ((Rd.of_own (hw.up 2)).below hbx) (one_ok (t18 : Sapi_Instr)).1 (one_ok (t18 : Sapi_Instr)).2 (by kernel_rfl) (one_off _ _ _) (by kernel_rfl) (by kernel_rfl))) [5, 6, 7, 10, 60, 62] (L' := [(5, .bool t12), (6, .pointer (some ad22)), (7, .pointer (some ad35)), (10, .pointer (some ad58)), (60, .int .i64 ((t18 : Sapi_Instr).A)), (62, .int .i64 ((t18 : Sapi_Instr).A))]) (by kernel_rfl) ?_
   clear hs; intro a hs
   refine z_pvs [4] [5, 6, 7, 8] [5, 6, 7, 10, 60, 62, 63] hs (L' := [(5, .bool t12), (6, .pointer (some ad22)), (7, .pointer (some ad35)), (10, .pointer (some ad58)), (60, .int .i64 ((t18 : Sapi_Instr).A)), (62, .int .i64 ((t18 : Sapi_Instr).A)), (63, .pointer (some ((ad35 : Addr).add 0)))]) (by kernel_rfl) ?_ (by kernel_rfl)
   clear hs; intro a hs
   obtain ⟨hp65, H⟩ := ite_only H
   refine z_run hs (op := (Op.indexAddr 23 (Operand.tmp 63) (Operand.tmp 62))) (ty := 0) (dst := some 64) (g := none) (by kernel_rfl) (by kernel_rfl) (by kernel_rfl) (fun wx hbx => (x_vidx (e := 22) (p := (ad35 : Addr).add 0) (n := 16) (k := .i64) (i := ((t18 : Sapi_Instr).A)) (sz := 1) (by kernel_rfl) (by kernel_rfl) (by kernel_rfl) (by kernel_rfl) hp65.1 hp65.2)) [5, 6, 7, 10, 60, 64] (L' := [(5, .bool t12), (6, .pointer (some ad22)), (7, .pointer (some ad35)), (10, .pointer (some ad58)), (60, .int .i64 ((t18 : Sapi_Instr).A)), (64, .pointer (some (((ad35 : Addr).add 0 : Addr).add (((t18 : Sapi_Instr).A : Int).toNat * 1))))]) (by kernel_rfl) ?_
   clear hs; intro a hs
   refine z_run hs (op := (Op.load 22 (Operand.tmp 64))) (ty := 22) (dst := some 65) (g := none) (by kernel_rfl) (by kernel_rfl) (by kernel_rfl) (fun wx hbx => (x_ld (E := eSapi_Regs) (off := 0 + ((t18 : Sapi_Instr).A : Int).toNat * 1) (p := ((ad35 : Addr).add 0 : Addr).add (((t18 : Sapi_Instr).A : Int).toNat * 1)) (v := .int .u32 (vx 0 ((t30 : Sapi_Regs).R) ((t18 : Sapi_Instr).A : Int).toNat)) ((Rd.of_own (hw.up 1)).below hbx) (one_ok (t30 : Sapi_Regs)).1 (one_ok (t30 : Sapi_Regs)).2 (by kernel_rfl) (by simp only [add_add', Int.toNat_zero, Nat.zero_mul, Nat.zero_add, Nat.mul_one] <;> rfl) (by kernel_rfl) (vget (cs := eSapi_Regs.enc (t30 : Sapi_Regs)) (pre := []) (post := [.int .u32 ((t30 : Sapi_Regs).H), .bool ((t30 : Sapi_Regs).N), .bool ((t30 : Sapi_Regs).Z), .bool ((t30 : Sapi_Regs).C), .bool ((t30 : Sapi_Regs).V)]) (f := (fun j : Nat => .int .u32 (vx 0 ((t30 : Sapi_Regs).R) j))) (n := 16) (o := 0) (i := ((t18 : Sapi_Instr).A : Int).toNat) (by kernel_rfl) rfl (by have := hp65; omega)))) [5, 6, 7, 10, 60, 65] (L' := [(5, .bool t12), (6, .pointer (some ad22)), (7, .pointer (some ad35)), (10, .pointer (some ad58)), (60, .int .i64 ((t18 : Sapi_Instr).A)), (65, .int .u32 (vx 0 ((t30 : Sapi_Regs).R) ((t18 : Sapi_Instr).A : Int).toNat))]) (by kernel_rfl) ?_
   clear hs; intro a hs
   refine z_pvs [7] [8] [5, 6, 7, 10, 60, 65, 66] hs (L' := [(5, .bool t12), (6, .pointer (some ad22)), (7, .pointer (some ad35)), (10, .pointer (some ad58)), (60, .int .i64 ((t18 : Sapi_Instr).A)), (65, .int .u32 (vx 0 ((t30 : Sapi_Regs).R) ((t18 : Sapi_Instr).A : Int).toNat)), (66, .pointer (some ((ad58 : Addr).add 0)))]) (by kernel_rfl) ?_ (by kernel_rfl)
   clear hs; intro a hs
   obtain ⟨hp66, H⟩ := ite_only H
   refine z_run hs (op := (Op.indexAddr 23 (Operand.tmp 66) (Operand.tmp 60))) (ty := 0) (dst := some 67) (g := none) (by kernel_rfl) (by kernel_rfl) (by kernel_rfl) (fun wx hbx => (x_vidx (e := 22) (p := (ad58 : Addr).add 0) (n := 16) (k := .i64) (i := ((t18 : Sapi_Instr).A)) (sz := 1) (by kernel_rfl) (by kernel_rfl) (by kernel_rfl) (by kernel_rfl) hp66.1 hp66.2)) [5, 6, 7, 10, 65, 67] (L' := [(5, .bool t12), (6, .pointer (some ad22)), (7, .pointer (some ad35)), (10, .pointer (some ad58)), (65, .int .u32 (vx 0 ((t30 : Sapi_Regs).R) ((t18 : Sapi_Instr).A : Int).toNat)), (67, .pointer (some (((ad58 : Addr).add 0 : Addr).add (((t18 : Sapi_Instr).A : Int).toNat * 1))))]) (by kernel_rfl) ?_
   clear hs; intro a hs
   refine z_end ?_
   intro wq hbq
   replace hw := hw.behind hbq
   obtain ⟨wd67, hx68, hw⟩ := x_put (P := Try.prog) (ty := 0) (t := 22) (x := (Operand.tmp 67)) (y := (Operand.tmp 65)) (off := 0 + ((t18 : Sapi_Instr).A : Int).toNat * 1) (p := ((ad58 : Addr).add 0 : Addr).add (((t18 : Sapi_Instr).A : Int).toNat * 1)) (v := .int .u32 (vx 0 ((t30 : Sapi_Regs).R) ((t18 : Sapi_Instr).A : Int).toNat)) (vs := [.int .u32 (vx 0 ((t30 : Sapi_Regs).R) ((t18 : Sapi_Instr).A : Int).toNat)]) (i := 0) (e' := (({ (a0 : Sapi_Regs) with R := vset ((a0 : Sapi_Regs).R) ((t18 : Sapi_Instr).A : Int).toNat (vx 0 ((t30 : Sapi_Regs).R) ((t18 : Sapi_Instr).A : Int).toNat) } : Sapi_Regs) : Sapi_Regs)) hs hw rfl (one_ok (a0 : Sapi_Regs)).1 (one_ok (a0 : Sapi_Regs)).2 (by kernel_rfl) (by simp only [add_add', Int.toNat_zero, Nat.zero_mul, Nat.zero_add, Nat.mul_one] <;> rfl) (by kernel_rfl) rfl (by kernel_rfl) (by have := hp66; show 0 + _ * 1 + 1 ≤ 21; omega) (by simp [Value.oneCell']) (vput (cs := eSapi_Regs.enc (a0 : Sapi_Regs)) (cs' := eSapi_Regs.enc ({ (a0 : Sapi_Regs) with R := vset ((a0 : Sapi_Regs).R) ((t18 : Sapi_Instr).A : Int).toNat (vx 0 ((t30 : Sapi_Regs).R) ((t18 : Sapi_Instr).A : Int).toNat) } : Sapi_Regs)) (pre := []) (post := [.int .u32 ((a0 : Sapi_Regs).H), .bool ((a0 : Sapi_Regs).N), .bool ((a0 : Sapi_Regs).Z), .bool ((a0 : Sapi_Regs).C), .bool ((a0 : Sapi_Regs).V)]) (f := (fun j : Nat => .int .u32 (vx 0 ((a0 : Sapi_Regs).R) j))) (f' := (fun j : Nat => .int .u32 (vx 0 (vset ((a0 : Sapi_Regs).R) ((t18 : Sapi_Instr).A : Int).toNat (vx 0 ((t30 : Sapi_Regs).R) ((t18 : Sapi_Instr).A : Int).toNat)) j))) (n := 16) (o := 0) (i := ((t18 : Sapi_Instr).A : Int).toNat) (v := .int .u32 (vx 0 ((t30 : Sapi_Regs).R) ((t18 : Sapi_Instr).A : Int).toNat)) (by kernel_rfl) (by kernel_rfl) rfl (by have := hp66; omega) (vx_put (by have := hp66; omega)))
   refine p_unit hs (op := (Op.store 22 (Operand.tmp 67) (Operand.tmp 65))) (ty := 0) (dst := none) (g := none) (by kernel_rfl) (by kernel_rfl) (by kernel_rfl) hx68 [5, 6, 7, 10] (L' := [(5, .bool t12), (6, .pointer (some ad22)), (7, .pointer (some ad35)), (10, .pointer (some ad58))]) (by kernel_rfl) ?_
   clear hs; intro a hs
   replace hw : St [] w0 wd67 [own 25 eSapi_Regs (some ad58) 1 [({ (a0 : Sapi_Regs) with R := vset ((a0 : Sapi_Regs).R) ((t18 : Sapi_Instr).A : Int).toNat (vx 0 ((t30 : Sapi_Regs).R) ((t18 : Sapi_Instr).A : Int).toNat) } : Sapi_Regs)], own 25 eSapi_Regs (some ad35) 1 [(t30 : Sapi_Regs)], own 27 eSapi_Instr (some ad22) 1 [(t18 : Sapi_Instr)], own 27 eSapi_Instr (some ad6) 1 [a1], own 25 eSapi_Regs (some ad2) 1 [a0]] := hw
   refine p_last ?_
   refine e_end ?_
   refine hK64 _ _ ?_
   refine go_seq_k fun K69 hK69 => ?_
   have hJ5 : ∀ (v71 : Bool) (a : Act) (w : World), Slots a 119 [(5, .bool t12), (6, .pointer (some ad22)), (7, .pointer (some ad35)), (10, .pointer (some ad58)), (11, .bool v71)] → St [] w0 w [own 25 eSapi_Regs (some ad58) 1 [({ (a0 : Sapi_Regs) with R := vset ((a0 : Sapi_Regs).R) ((t18 : Sapi_Instr).A : Int).toNat (vx 0 ((t30 : Sapi_Regs).R) ((t18 : Sapi_Instr).A : Int).toNat) } : Sapi_Regs)], own 25 eSapi_Regs (some ad35) 1 [(t30 : Sapi_Regs)], own 27 eSapi_Instr (some ad22) 1 [(t18 : Sapi_Instr)], own 27 eSapi_Instr (some ad6) 1 [a1], own 25 eSapi_Regs (some ad2) 1 [a0]] → rivetlaw04_AluKeeps.j5 t18 t12 t30 a0 v71 = some r → K69 a w := by
    intro v71 a w hs hw H
    unfold rivetlaw04_AluKeeps.j5 at H
    refine hK69 _ _ ?_
    refine go_seq_k fun K72 hK72 => ?_
    have hJ7 : ∀ (v82 : Sapi_Regs) (v83 : Bool) (a : Act) (w : World), Slots a 119 [(5, .bool t12), (6, .pointer (some ad22)), (7, .pointer (some ad35)), (10, .pointer (some ad58)), (11, .bool v83)] → St [] w0 w [own 25 eSapi_Regs (some ad58) 1 [v82], own 25 eSapi_Regs (some ad35) 1 [(t30 : Sapi_Regs)], own 27 eSapi_Instr (some ad22) 1 [(t18 : Sapi_Instr)], own 27 eSapi_Instr (some ad6) 1 [a1], own 25 eSapi_Regs (some ad2) 1 [a0]] → rivetlaw04_AluKeeps.j7 t18 t12 t30 v82 v83 = some r → K72 a w := by
     intro v82 v83 a w hs hw H
     unfold rivetlaw04_AluKeeps.j7 at H
     refine hK72 _ _ ?_
     refine go_seq_k fun K84 hK84 => ?_
     have hJ9 : ∀ (v96 : Sapi_Regs) (a : Act) (w : World), Slots a 119 [(5, .bool t12), (6, .pointer (some ad22)), (7, .pointer (some ad35)), (10, .pointer (some ad58))] → St [] w0 w [own 25 eSapi_Regs (some ad58) 1 [v96], own 25 eSapi_Regs (some ad35) 1 [(t30 : Sapi_Regs)], own 27 eSapi_Instr (some ad22) 1 [(t18 : Sapi_Instr)], own 27 eSapi_Instr (some ad6) 1 [a1], own 25 eSapi_Regs (some ad2) 1 [a0]] → rivetlaw04_AluKeeps.j9 t12 t18 t30 v96 = some r → K84 a w := by
      intro v96 a w hs hw H
      unfold rivetlaw04_AluKeeps.j9 at H
      refine hK84 _ _ ?_
      refine go_seq_k fun K97 hK97 => ?_
      have hJ10 : ∀ (v103 : Bool) (a : Act) (w : World), Slots a 119 [(4, .bool v103)] → St [] w0 w [own 25 eSapi_Regs (some ad58) 1 [v96], own 25 eSapi_Regs (some ad35) 1 [(t30 : Sapi_Regs)], own 27 eSapi_Instr (some ad22) 1 [(t18 : Sapi_Instr)], own 27 eSapi_Instr (some ad6) 1 [a1], own 25 eSapi_Regs (some ad2) 1 [a0]] → rivetlaw04_AluKeeps.j10 v103 = some r → K97 a w := by
       intro v103 a w hs hw H
       unfold rivetlaw04_AluKeeps.j10 at H
       refine hK97 _ _ ?_
       refine wp_ret ?_
       obtain rfl := Option.some.inj H
       refine ret1 (t := 4) (v := .bool v103) hs (by kernel_rfl) (by kernel_rfl) ?_
       exact ⟨rfl, hw.only 0⟩
      refine q2_region (by kernel_rfl) (by kernel_rfl) ?_
      refine q_pvs 0 2 [6, 7, 10, 108] hs (L' := [(6, .pointer (some ad22)), (7, .pointer (some ad35)), (10, .pointer (some ad58)), (108, .bool t12)]) (by kernel_rfl) ?_ rfl
      clear hs; intro a hs
      cases hb98 : t12
      ·replace H := ite_f H (ff hb98)
       rw [hb98] at hs
       refine q_pvs 2 13 [4] hs (L' := [(4, .bool false)]) (by kernel_rfl) ?_ rfl
       clear hs; intro a hs
       refine q_end (by kernel_rfl) ?_
       intro wq hbq
       replace hw := hw.behind hbq
       replace hw := hw.up 4
       replace hw := hw.up 4
       replace hw := hw.up 4
       replace hw := hw.up 4
       replace hw := hw.up 4
       replace hw := hw.only 5
       exact hJ10 false _ _ (hs.keep [4] (by kernel_rfl)) hw H
      ·replace H := ite_t H hb98
       rw [hb98] at hs
       refine q_run hs (op := (Op.load 25 (Operand.tmp 7))) (ty := 25) (dst := some 109) (g := some (1, true)) (by kernel_rfl) (by kernel_rfl) (by kernel_rfl) (fun wx hbx => (x_lds (E := eSapi_Regs) (off := 0) (p := ad35) (cs := (eSapi_Regs.enc (t30 : Sapi_Regs))) ((Rd.of_own (hw.up 1)).below hbx) (one_ok (t30 : Sapi_Regs)).1 (one_ok (t30 : Sapi_Regs)).2 (by kernel_rfl) (one_at _ _) (by kernel_rfl) (by kernel_rfl) (by kernel_rfl))) [6, 7, 10, 108, 109] (L' := [(6, .pointer (some ad22)), (7, .pointer (some ad35)), (10, .pointer (some ad58)), (108, .bool true), (109, .agg (eSapi_Regs.enc (t30 : Sapi_Regs)).toArray)]) (by kernel_rfl) ?_
       clear hs; intro a hs
       refine q_run hs (op := (Op.load 25 (Operand.tmp 10))) (ty := 25) (dst := some 110) (g := some (1, true)) (by kernel_rfl) (by kernel_rfl) (by kernel_rfl) (fun wx hbx => (x_lds (E := eSapi_Regs) (off := 0) (p := ad58) (cs := (eSapi_Regs.enc v96)) ((Rd.of_own (hw.up 0)).below hbx) (one_ok ({ (a0 : Sapi_Regs) with R := vset ((a0 : Sapi_Regs).R) ((t18 : Sapi_Instr).A : Int).toNat (vx 0 ((t30 : Sapi_Regs).R) ((t18 : Sapi_Instr).A : Int).toNat) } : Sapi_Regs)).1 (one_ok ({ (a0 : Sapi_Regs) with R := vset ((a0 : Sapi_Regs).R) ((t18 : Sapi_Instr).A : Int).toNat (vx 0 ((t30 : Sapi_Regs).R) ((t18 : Sapi_Instr).A : Int).toNat) } : Sapi_Regs)).2 (by kernel_rfl) (one_at _ _) (by kernel_rfl) (by kernel_rfl) (by kernel_rfl))) [6, 7, 108, 109, 110] (L' := [(6, .pointer (some ad22)), (7, .pointer (some ad35)), (108, .bool true), (109, .agg (eSapi_Regs.enc (t30 : Sapi_Regs)).toArray), (110, .agg (eSapi_Regs.enc v96).toArray)]) (by kernel_rfl) ?_
       clear hs; intro a hs
       refine q_pvs 4 5 [7, 108, 109, 110, 111] hs (L' := [(7, .pointer (some ad35)), (108, .bool true), (109, .agg (eSapi_Regs.enc (t30 : Sapi_Regs)).toArray), (110, .agg (eSapi_Regs.enc v96).toArray), (111, .pointer (some ((ad22 : Addr).add 2)))]) (by kernel_rfl) ?_ rfl
       clear hs; intro a hs
       refine q_run hs (op := (Op.load 3 (Operand.tmp 111))) (ty := 3) (dst := some 112) (g := some (1, true)) (by kernel_rfl) (by kernel_rfl) (by kernel_rfl) (fun wx hbx => (x_ld (E := eSapi_Instr) (off := 2) (p := (ad22 : Addr).add 2) (v := .int .i64 ((t18 : Sapi_Instr).A)) ((Rd.of_own (hw.up 2)).below hbx) (one_ok (t18 : Sapi_Instr)).1 (one_ok (t18 : Sapi_Instr)).2 (by kernel_rfl) (one_off _ _ _) (by kernel_rfl) (by kernel_rfl))) [7, 108, 109, 110, 112] (L' := [(7, .pointer (some ad35)), (108, .bool true), (109, .agg (eSapi_Regs.enc (t30 : Sapi_Regs)).toArray), (110, .agg (eSapi_Regs.enc v96).toArray), (112, .int .i64 ((t18 : Sapi_Instr).A))]) (by kernel_rfl) ?_
       clear hs; intro a hs
       refine q_pvs 6 7 [108, 109, 110, 112, 113] hs (L' := [(108, .bool true), (109, .agg (eSapi_Regs.enc (t30 : Sapi_Regs)).toArray), (110, .agg (eSapi_Regs.enc v96).toArray), (112, .int .i64 ((t18 : Sapi_Instr).A)), (113, .pointer (some ((ad35 : Addr).add 0)))]) (by kernel_rfl) ?_ rfl
       clear hs; intro a hs
       obtain ⟨hp99, H⟩ := ite_only H
       refine q_run hs (op := (Op.indexAddr 23 (Operand.tmp 113) (Operand.tmp 112))) (ty := 0) (dst := some 114) (g := some (1, true)) (by kernel_rfl) (by kernel_rfl) (by kernel_rfl) (fun wx hbx => (x_vidx (e := 22) (p := (ad35 : Addr).add 0) (n := 16) (k := .i64) (i := ((t18 : Sapi_Instr).A)) (sz := 1) (by kernel_rfl) (by kernel_rfl) (by kernel_rfl) (by kernel_rfl) hp99.1 hp99.2)) [108, 109, 110, 114] (L' := [(108, .bool true), (109, .agg (eSapi_Regs.enc (t30 : Sapi_Regs)).toArray), (110, .agg (eSapi_Regs.enc v96).toArray), (114, .pointer (some (((ad35 : Addr).add 0 : Addr).add (((t18 : Sapi_Instr).A : Int).toNat * 1))))]) (by kernel_rfl) ?_
       clear hs; intro a hs
       refine q_run hs (op := (Op.load 22 (Operand.tmp 114))) (ty := 22) (dst := some 115) (g := some (1, true)) (by kernel_rfl) (by kernel_rfl) (by kernel_rfl) (fun wx hbx => (x_ld (E := eSapi_Regs) (off := 0 + ((t18 : Sapi_Instr).A : Int).toNat * 1) (p := ((ad35 : Addr).add 0 : Addr).add (((t18 : Sapi_Instr).A : Int).toNat * 1)) (v := .int .u32 (vx 0 ((t30 : Sapi_Regs).R) ((t18 : Sapi_Instr).A : Int).toNat)) ((Rd.of_own (hw.up 1)).below hbx) (one_ok (t30 : Sapi_Regs)).1 (one_ok (t30 : Sapi_Regs)).2 (by kernel_rfl) (by simp only [add_add', Int.toNat_zero, Nat.zero_mul, Nat.zero_add, Nat.mul_one] <;> rfl) (by kernel_rfl) (vget (cs := eSapi_Regs.enc (t30 : Sapi_Regs)) (pre := []) (post := [.int .u32 ((t30 : Sapi_Regs).H), .bool ((t30 : Sapi_Regs).N), .bool ((t30 : Sapi_Regs).Z), .bool ((t30 : Sapi_Regs).C), .bool ((t30 : Sapi_Regs).V)]) (f := (fun j : Nat => .int .u32 (vx 0 ((t30 : Sapi_Regs).R) j))) (n := 16) (o := 0) (i := ((t18 : Sapi_Instr).A : Int).toNat) (by kernel_rfl) rfl (by have := hp99; omega)))) [108, 109, 110, 115] (L' := [(108, .bool true), (109, .agg (eSapi_Regs.enc (t30 : Sapi_Regs)).toArray), (110, .agg (eSapi_Regs.enc v96).toArray), (115, .int .u32 (vx 0 ((t30 : Sapi_Regs).R) ((t18 : Sapi_Instr).A : Int).toNat))]) (by kernel_rfl) ?_
       clear hs; intro a hs
       obtain ⟨t101, hx102, H⟩ := bind_some H
       refine q_call hs (op := (Op.call { callee := (Callee.value (Operand.func 13)), args := #[(Operand.tmp 110), (Operand.tmp 115)], argTypes := #[25, 22] })) (ty := 25) (dst := some 116) (g := some (1, true)) (by kernel_rfl) (by kernel_rfl) (by kernel_rfl) (f := 13) (args := #[.agg (eSapi_Regs.enc v96).toArray, .int .u32 (vx 0 ((t30 : Sapi_Regs).R) ((t18 : Sapi_Instr).A : Int).toNat)]) (v := .agg (eSapi_Regs.enc t101).toArray) (by kernel_rfl) (fun wx hbx => (alu_Show.calls v96 (vx 0 ((t30 : Sapi_Regs).R) ((t18 : Sapi_Instr).A : Int).toNat) t101 _ hx102).mono ?_) [108, 109, 116] (L' := [(108, .bool true), (109, .agg (eSapi_Regs.enc (t30 : Sapi_Regs)).toArray), (116, .agg (eSapi_Regs.enc t101).toArray)]) (by kernel_rfl) ?_
       · rintro e wy ⟨rfl, hwy⟩
         exact ⟨rfl, below_st hbx hwy⟩
       clear hs; intro a hs
       refine q_run hs (op := (Op.binOp BinOp.eql 25 (Operand.tmp 109) (Operand.tmp 116) 25)) (ty := 4) (dst := some 117) (g := some (1, true)) (by kernel_rfl) (by kernel_rfl) (by kernel_rfl) (fun wx hbx => (x_eql (xs := (eSapi_Regs.enc (t30 : Sapi_Regs)).toArray) (ys := (eSapi_Regs.enc t101).toArray) (r := ((decide (((t30 : Sapi_Regs).R) = t101.R)) && ((((t30 : Sapi_Regs).H) == t101.H) && ((((t30 : Sapi_Regs).N) == t101.N) && ((((t30 : Sapi_Regs).Z) == t101.Z) && ((((t30 : Sapi_Regs).C) == t101.C) && ((((t30 : Sapi_Regs).V) == t101.V) && true))))))) (by kernel_rfl) (by kernel_rfl) (by kernel_rfl) (eq_struct Try.underlying25 (by kernel_rfl) (eq_cons (a := .agg (eA23.enc ((t30 : Sapi_Regs).R)).toArray) (b := .agg (eA23.enc t101.R).toArray) (r := (decide (((t30 : Sapi_Regs).R) = t101.R))) (s := ((((t30 : Sapi_Regs).H) == t101.H) && ((((t30 : Sapi_Regs).N) == t101.N) && ((((t30 : Sapi_Regs).Z) == t101.Z) && ((((t30 : Sapi_Regs).C) == t101.C) && ((((t30 : Sapi_Regs).V) == t101.V) && true)))))) (by kernel_rfl) (part_pv (by kernel_rfl)) (part_pv (by kernel_rfl)) (eq_vec (e := 22) (k' := .u32) (k := .u32) ((t30 : Sapi_Regs).R) t101.R (by kernel_rfl) (by kernel_rfl) (by kernel_rfl) (by kernel_rfl) (by kernel_rfl)) (eq_cons (a := .int .u32 ((t30 : Sapi_Regs).H)) (b := .int .u32 t101.H) (r := (((t30 : Sapi_Regs).H) == t101.H)) (s := ((((t30 : Sapi_Regs).N) == t101.N) && ((((t30 : Sapi_Regs).Z) == t101.Z) && ((((t30 : Sapi_Regs).C) == t101.C) && ((((t30 : Sapi_Regs).V) == t101.V) && true))))) (by kernel_rfl) (part_pv (by kernel_rfl)) (part_pv (by kernel_rfl)) (eq_pv (by kernel_rfl)) (eq_cons (a := .bool ((t30 : Sapi_Regs).N)) (b := .bool t101.N) (r := (((t30 : Sapi_Regs).N) == t101.N)) (s := ((((t30 : Sapi_Regs).Z) == t101.Z) && ((((t30 : Sapi_Regs).C) == t101.C) && ((((t30 : Sapi_Regs).V) == t101.V) && true)))) (by kernel_rfl) (part_pv (by kernel_rfl)) (part_pv (by kernel_rfl)) (eq_pv (by kernel_rfl)) (eq_cons (a := .bool ((t30 : Sapi_Regs).Z)) (b := .bool t101.Z) (r := (((t30 : Sapi_Regs).Z) == t101.Z)) (s := ((((t30 : Sapi_Regs).C) == t101.C) && ((((t30 : Sapi_Regs).V) == t101.V) && true))) (by kernel_rfl) (part_pv (by kernel_rfl)) (part_pv (by kernel_rfl)) (eq_pv (by kernel_rfl)) (eq_cons (a := .bool ((t30 : Sapi_Regs).C)) (b := .bool t101.C) (r := (((t30 : Sapi_Regs).C) == t101.C)) (s := ((((t30 : Sapi_Regs).V) == t101.V) && true)) (by kernel_rfl) (part_pv (by kernel_rfl)) (part_pv (by kernel_rfl)) (eq_pv (by kernel_rfl)) (eq_cons (a := .bool ((t30 : Sapi_Regs).V)) (b := .bool t101.V) (r := (((t30 : Sapi_Regs).V) == t101.V)) (s := true) (by kernel_rfl) (part_pv (by kernel_rfl)) (part_pv (by kernel_rfl)) (eq_pv (by kernel_rfl)) eq_nil))))))))) [108, 117] (L' := [(108, .bool true), (117, .bool ((decide (((t30 : Sapi_Regs).R) = t101.R)) && ((((t30 : Sapi_Regs).H) == t101.H) && ((((t30 : Sapi_Regs).N) == t101.N) && ((((t30 : Sapi_Regs).Z) == t101.Z) && ((((t30 : Sapi_Regs).C) == t101.C) && ((((t30 : Sapi_Regs).V) == t101.V) && true)))))))]) (by kernel_rfl) ?_
       clear hs; intro a hs
       refine q_pvs 11 13 [4] hs (L' := [(4, .bool ((decide (((t30 : Sapi_Regs).R) = t101.R)) && ((((t30 : Sapi_Regs).H) == t101.H) && ((((t30 : Sapi_Regs).N) == t101.N) && ((((t30 : Sapi_Regs).Z) == t101.Z) && ((((t30 : Sapi_Regs).C) == t101.C) && ((((t30 : Sapi_Regs).V) == t101.V) && true)))))))]) (by kernel_rfl) ?_ rfl
       clear hs; intro a hs
       refine q_end (by kernel_rfl) ?_
       intro wq hbq
       replace hw := hw.behind hbq
       replace hw := hw.up 4
       replace hw := hw.up 4
       replace hw := hw.up 4
       replace hw := hw.up 4
       replace hw := hw.up 4
       replace hw := hw.only 5
       exact hJ10 ((decide (((t30 : Sapi_Regs).R) = t101.R)) && ((((t30 : Sapi_Regs).H) == t101.H) && ((((t30 : Sapi_Regs).N) == t101.N) && ((((t30 : Sapi_Regs).Z) == t101.Z) && ((((t30 : Sapi_Regs).C) == t101.C) && ((((t30 : Sapi_Regs).V) == t101.V) && true)))))) _ _ (hs.keep [4] (by kernel_rfl)) hw H
     refine go_seq_k fun K85 hK85 => ?_
     have hJ8 : ∀ (v88 : Bool) (a : Act) (w : World), Slots a 119 [(5, .bool t12), (6, .pointer (some ad22)), (7, .pointer (some ad35)), (10, .pointer (some ad58)), (100, .bool v88)] → St [] w0 w [own 25 eSapi_Regs (some ad58) 1 [v82], own 25 eSapi_Regs (some ad35) 1 [(t30 : Sapi_Regs)], own 27 eSapi_Instr (some ad22) 1 [(t18 : Sapi_Instr)], own 27 eSapi_Instr (some ad6) 1 [a1], own 25 eSapi_Regs (some ad2) 1 [a0]] → rivetlaw04_AluKeeps.j8 t12 t18 t30 v82 v88 = some r → K85 a w := by
      intro v88 a w hs hw H
      unfold rivetlaw04_AluKeeps.j8 at H
      refine hK85 _ _ ?_
      refine go_cond hs v88 (by kernel_rfl) (fun hc => ?_) (fun hc => ?_)
      ·replace H := ite_t H hc
       have hb89 := hc
       rw [hb89] at hs
       refine go_seq_k fun K90 hK90 => ?_
       refine go_region ?_
       refine go_pvs 0 1 [5, 6, 7, 10, 101] hs (L' := [(5, .bool t12), (6, .pointer (some ad22)), (7, .pointer (some ad35)), (10, .pointer (some ad58)), (101, .pointer (some ((ad35 : Addr).add 19)))]) (by kernel_rfl) ?_ rfl
       clear hs; intro a hs
       refine go_run hs (op := (Op.load 4 (Operand.tmp 101))) (ty := 4) (dst := some 102) (g := none) (by kernel_rfl) (by kernel_rfl) (by kernel_rfl) (x_ld (E := eSapi_Regs) (off := 19) (p := (ad35 : Addr).add 19) (v := .bool ((t30 : Sapi_Regs).C)) (Rd.of_own (hw.up 1)) (one_ok (t30 : Sapi_Regs)).1 (one_ok (t30 : Sapi_Regs)).2 (by kernel_rfl) (one_off _ _ _) (by kernel_rfl) (by kernel_rfl)) [5, 6, 7, 10, 102] (L' := [(5, .bool t12), (6, .pointer (some ad22)), (7, .pointer (some ad35)), (10, .pointer (some ad58)), (102, .bool ((t30 : Sapi_Regs).C))]) (by kernel_rfl) ?_
       clear hs; intro a hs
       refine go_pvs 2 3 [5, 6, 7, 10, 102, 103] hs (L' := [(5, .bool t12), (6, .pointer (some ad22)), (7, .pointer (some ad35)), (10, .pointer (some ad58)), (102, .bool ((t30 : Sapi_Regs).C)), (103, .pointer (some ((ad58 : Addr).add 19)))]) (by kernel_rfl) ?_ rfl
       clear hs; intro a hs
       obtain ⟨wd91, hx92, hw⟩ := x_put (P := Try.prog) (ty := 0) (t := 4) (x := (Operand.tmp 103)) (y := (Operand.tmp 102)) (off := 19) (p := (ad58 : Addr).add 19) (v := .bool ((t30 : Sapi_Regs).C)) (vs := [.bool ((t30 : Sapi_Regs).C)]) (i := 0) (e' := (({ v82 with C := (t30 : Sapi_Regs).C } : Sapi_Regs) : Sapi_Regs)) hs hw rfl (one_ok ({ (a0 : Sapi_Regs) with R := vset ((a0 : Sapi_Regs).R) ((t18 : Sapi_Instr).A : Int).toNat (vx 0 ((t30 : Sapi_Regs).R) ((t18 : Sapi_Instr).A : Int).toNat) } : Sapi_Regs)).1 (one_ok ({ (a0 : Sapi_Regs) with R := vset ((a0 : Sapi_Regs).R) ((t18 : Sapi_Instr).A : Int).toNat (vx 0 ((t30 : Sapi_Regs).R) ((t18 : Sapi_Instr).A : Int).toNat) } : Sapi_Regs)).2 (by kernel_rfl) (one_off _ _ _) (by kernel_rfl) rfl (by kernel_rfl) (Nat.le_of_ble_eq_true rfl) (by simp [Value.oneCell']) (by kernel_rfl)
       refine go_unit hs (op := (Op.store 4 (Operand.tmp 103) (Operand.tmp 102))) (ty := 0) (dst := none) (g := none) (by kernel_rfl) (by kernel_rfl) (by kernel_rfl) hx92 [5, 6, 7, 10] (L' := [(5, .bool t12), (6, .pointer (some ad22)), (7, .pointer (some ad35)), (10, .pointer (some ad58))]) (by kernel_rfl) ?_
       clear hs; intro a hs
       replace hw : St [] w0 wd91 [own 25 eSapi_Regs (some ad58) 1 [({ v82 with C := (t30 : Sapi_Regs).C } : Sapi_Regs)], own 25 eSapi_Regs (some ad35) 1 [(t30 : Sapi_Regs)], own 27 eSapi_Instr (some ad22) 1 [(t18 : Sapi_Instr)], own 27 eSapi_Instr (some ad6) 1 [a1], own 25 eSapi_Regs (some ad2) 1 [a0]] := hw
       refine go_end (by kernel_rfl) ?_
       refine hK90 _ _ ?_
       refine go_region ?_
       refine go_pvs 0 1 [5, 6, 7, 10, 104] hs (L' := [(5, .bool t12), (6, .pointer (some ad22)), (7, .pointer (some ad35)), (10, .pointer (some ad58)), (104, .pointer (some ((ad35 : Addr).add 20)))]) (by kernel_rfl) ?_ rfl
       clear hs; intro a hs
       refine go_run hs (op := (Op.load 4 (Operand.tmp 104))) (ty := 4) (dst := some 105) (g := none) (by kernel_rfl) (by kernel_rfl) (by kernel_rfl) (x_ld (E := eSapi_Regs) (off := 20) (p := (ad35 : Addr).add 20) (v := .bool ((t30 : Sapi_Regs).V)) (Rd.of_own (hw.up 1)) (one_ok (t30 : Sapi_Regs)).1 (one_ok (t30 : Sapi_Regs)).2 (by kernel_rfl) (one_off _ _ _) (by kernel_rfl) (by kernel_rfl)) [5, 6, 7, 10, 105] (L' := [(5, .bool t12), (6, .pointer (some ad22)), (7, .pointer (some ad35)), (10, .pointer (some ad58)), (105, .bool ((t30 : Sapi_Regs).V))]) (by kernel_rfl) ?_
       clear hs; intro a hs
       refine go_pvs 2 3 [5, 6, 7, 10, 105, 106] hs (L' := [(5, .bool t12), (6, .pointer (some ad22)), (7, .pointer (some ad35)), (10, .pointer (some ad58)), (105, .bool ((t30 : Sapi_Regs).V)), (106, .pointer (some ((ad58 : Addr).add 20)))]) (by kernel_rfl) ?_ rfl
       clear hs; intro a hs
       obtain ⟨wd93, hx94, hw⟩ := x_put (P := Try.prog) (ty := 0) (t := 4) (x := (Operand.tmp 106)) (y := (Operand.tmp 105)) (off := 20) (p := (ad58 : Addr).add 20) (v := .bool ((t30 : Sapi_Regs).V)) (vs := [.bool ((t30 : Sapi_Regs).V)]) (i := 0) (e' := (({ ({ v82 with C := (t30 : Sapi_Regs).C } : Sapi_Regs) with V := (t30 : Sapi_Regs).V } : Sapi_Regs) : Sapi_Regs)) hs hw rfl (one_ok ({ v82 with C := (t30 : Sapi_Regs).C } : Sapi_Regs)).1 (one_ok ({ v82 with C := (t30 : Sapi_Regs).C } : Sapi_Regs)).2 (by kernel_rfl) (one_off _ _ _) (by kernel_rfl) rfl (by kernel_rfl) (Nat.le_of_ble_eq_true rfl) (by simp [Value.oneCell']) (by kernel_rfl)
       refine go_unit hs (op := (Op.store 4 (Operand.tmp 106) (Operand.tmp 105))) (ty := 0) (dst := none) (g := none) (by kernel_rfl) (by kernel_rfl) (by kernel_rfl) hx94 [5, 6, 7, 10] (L' := [(5, .bool t12), (6, .pointer (some ad22)), (7, .pointer (some ad35)), (10, .pointer (some ad58))]) (by kernel_rfl) ?_
       clear hs; intro a hs
       replace hw : St [] w0 wd93 [own 25 eSapi_Regs (some ad58) 1 [({ ({ v82 with C := (t30 : Sapi_Regs).C } : Sapi_Regs) with V := (t30 : Sapi_Regs).V } : Sapi_Regs)], own 25 eSapi_Regs (some ad35) 1 [(t30 : Sapi_Regs)], own 27 eSapi_Instr (some ad22) 1 [(t18 : Sapi_Instr)], own 27 eSapi_Instr (some ad6) 1 [a1], own 25 eSapi_Regs (some ad2) 1 [a0]] := hw
       refine go_end (by kernel_rfl) ?_
       replace hw := hw.up 4
       replace hw := hw.up 4
       replace hw := hw.up 4
       replace hw := hw.up 4
       replace hw := hw.up 4
       replace hw := hw.only 5
       exact hJ9 ({ ({ v82 with C := (t30 : Sapi_Regs).C } : Sapi_Regs) with V := (t30 : Sapi_Regs).V } : Sapi_Regs) _ _ (hs.keep [5, 6, 7, 10] (by kernel_rfl)) hw H
      ·replace H := ite_f H (ff hc)
       have hb95 := hc
       rw [hb95] at hs
       refine wp_skip ?_
       replace hw := hw.up 4
       replace hw := hw.up 4
       replace hw := hw.up 4
       replace hw := hw.up 4
       replace hw := hw.up 4
       replace hw := hw.only 5
       exact hJ9 v82 _ _ (hs.keep [5, 6, 7, 10] (by kernel_rfl)) hw H
     refine go_region ?_
     refine go_pvs 0 2 [5, 6, 7, 10, 91] hs (L' := [(5, .bool t12), (6, .pointer (some ad22)), (7, .pointer (some ad35)), (10, .pointer (some ad58)), (91, .bool v83)]) (by kernel_rfl) ?_ rfl
     clear hs; intro a hs
     cases hb86 : v83
     ·replace H := ite_f H (ff hb86)
      rw [hb86] at hs
      refine go_pvs 2 11 [5, 6, 7, 10, 100] hs (L' := [(5, .bool t12), (6, .pointer (some ad22)), (7, .pointer (some ad35)), (10, .pointer (some ad58)), (100, .bool false)]) (by kernel_rfl) ?_ rfl
      clear hs; intro a hs
      refine go_end (by kernel_rfl) ?_
      replace hw := hw.up 4
      replace hw := hw.up 4
      replace hw := hw.up 4
      replace hw := hw.up 4
      replace hw := hw.up 4
      replace hw := hw.only 5
      exact hJ8 false _ _ (hs.keep [5, 6, 7, 10, 100] (by kernel_rfl)) hw H
     ·replace H := ite_t H hb86
      rw [hb86] at hs
      refine go_pvs 2 3 [5, 6, 7, 10, 91, 92] hs (L' := [(5, .bool t12), (6, .pointer (some ad22)), (7, .pointer (some ad35)), (10, .pointer (some ad58)), (91, .bool true), (92, .pointer (some ((ad22 : Addr).add 1)))]) (by kernel_rfl) ?_ rfl
      clear hs; intro a hs
      refine go_run hs (op := (Op.load 3 (Operand.tmp 92))) (ty := 3) (dst := some 93) (g := some (1, true)) (by kernel_rfl) (by kernel_rfl) (by kernel_rfl) (x_ld (E := eSapi_Instr) (off := 1) (p := (ad22 : Addr).add 1) (v := .int .i64 ((t18 : Sapi_Instr).Op)) (Rd.of_own (hw.up 2)) (one_ok (t18 : Sapi_Instr)).1 (one_ok (t18 : Sapi_Instr)).2 (by kernel_rfl) (one_off _ _ _) (by kernel_rfl) (by kernel_rfl)) [5, 6, 7, 10, 91, 93] (L' := [(5, .bool t12), (6, .pointer (some ad22)), (7, .pointer (some ad35)), (10, .pointer (some ad58)), (91, .bool true), (93, .int .i64 ((t18 : Sapi_Instr).Op))]) (by kernel_rfl) ?_
      clear hs; intro a hs
      refine go_pvs 4 6 [5, 6, 7, 10, 91, 95] hs (L' := [(5, .bool t12), (6, .pointer (some ad22)), (7, .pointer (some ad35)), (10, .pointer (some ad58)), (91, .bool true), (95, .bool (((t18 : Sapi_Instr).Op) == 8))]) (by kernel_rfl) ?_ rfl
      clear hs; intro a hs
      cases hb87 : (((t18 : Sapi_Instr).Op) == 8)
      ·replace H := ite_f H (beq_eq_false_iff_ne.1 hb87)
       rw [hb87] at hs
       refine go_pvs 6 7 [5, 6, 7, 10, 91, 95, 96] hs (L' := [(5, .bool t12), (6, .pointer (some ad22)), (7, .pointer (some ad35)), (10, .pointer (some ad58)), (91, .bool true), (95, .bool false), (96, .pointer (some ((ad22 : Addr).add 1)))]) (by kernel_rfl) ?_ rfl
       clear hs; intro a hs
       refine go_run hs (op := (Op.load 3 (Operand.tmp 96))) (ty := 3) (dst := some 97) (g := some (5, false)) (by kernel_rfl) (by kernel_rfl) (by kernel_rfl) (x_ld (E := eSapi_Instr) (off := 1) (p := (ad22 : Addr).add 1) (v := .int .i64 ((t18 : Sapi_Instr).Op)) (Rd.of_own (hw.up 2)) (one_ok (t18 : Sapi_Instr)).1 (one_ok (t18 : Sapi_Instr)).2 (by kernel_rfl) (one_off _ _ _) (by kernel_rfl) (by kernel_rfl)) [5, 6, 7, 10, 91, 95, 97] (L' := [(5, .bool t12), (6, .pointer (some ad22)), (7, .pointer (some ad35)), (10, .pointer (some ad58)), (91, .bool true), (95, .bool false), (97, .int .i64 ((t18 : Sapi_Instr).Op))]) (by kernel_rfl) ?_
       clear hs; intro a hs
       refine go_pvs 8 11 [5, 6, 7, 10, 100] hs (L' := [(5, .bool t12), (6, .pointer (some ad22)), (7, .pointer (some ad35)), (10, .pointer (some ad58)), (100, .bool (((t18 : Sapi_Instr).Op) == 9))]) (by kernel_rfl) ?_ rfl
       clear hs; intro a hs
       refine go_end (by kernel_rfl) ?_
       replace hw := hw.up 4
       replace hw := hw.up 4
       replace hw := hw.up 4
       replace hw := hw.up 4
       replace hw := hw.up 4
       replace hw := hw.only 5
       exact hJ8 (((t18 : Sapi_Instr).Op) == 9) _ _ (hs.keep [5, 6, 7, 10, 100] (by kernel_rfl)) hw H
      ·replace H := ite_t H (beq_iff_eq.1 hb87)
       rw [hb87] at hs
       refine go_pvs 6 11 [5, 6, 7, 10, 100] hs (L' := [(5, .bool t12), (6, .pointer (some ad22)), (7, .pointer (some ad35)), (10, .pointer (some ad58)), (100, .bool true)]) (by kernel_rfl) ?_ rfl
       clear hs; intro a hs
       refine go_end (by kernel_rfl) ?_
       replace hw := hw.up 4
       replace hw := hw.up 4
       replace hw := hw.up 4
       replace hw := hw.up 4
       replace hw := hw.up 4
       replace hw := hw.only 5
       exact hJ8 true _ _ (hs.keep [5, 6, 7, 10, 100] (by kernel_rfl)) hw H
    refine go_seq_k fun K73 hK73 => ?_
    have hJ6 : ∀ (v76 : Bool) (v77 : Bool) (a : Act) (w : World), Slots a 119 [(5, .bool t12), (6, .pointer (some ad22)), (7, .pointer (some ad35)), (10, .pointer (some ad58)), (11, .bool v76), (86, .bool v77)] → St [] w0 w [own 25 eSapi_Regs (some ad58) 1 [({ (a0 : Sapi_Regs) with R := vset ((a0 : Sapi_Regs).R) ((t18 : Sapi_Instr).A : Int).toNat (vx 0 ((t30 : Sapi_Regs).R) ((t18 : Sapi_Instr).A : Int).toNat) } : Sapi_Regs)], own 25 eSapi_Regs (some ad35) 1 [(t30 : Sapi_Regs)], own 27 eSapi_Instr (some ad22) 1 [(t18 : Sapi_Instr)], own 27 eSapi_Instr (some ad6) 1 [a1], own 25 eSapi_Regs (some ad2) 1 [a0]] → rivetlaw04_AluKeeps.j6 t18 t12 t30 a0 v76 v77 = some r → K73 a w := by
     intro v76 v77 a w hs hw H
     unfold rivetlaw04_AluKeeps.j6 at H
     refine hK73 _ _ ?_
     refine go_cond hs v77 (by kernel_rfl) (fun hc => ?_) (fun hc => ?_)
     ·replace H := ite_t H hc
      have hb78 := hc
      rw [hb78] at hs
      refine go_region ?_
      refine go_pvs 0 1 [5, 6, 7, 10, 11, 87] hs (L' := [(5, .bool t12), (6, .pointer (some ad22)), (7, .pointer (some ad35)), (10, .pointer (some ad58)), (11, .bool v76), (87, .pointer (some ((ad35 : Addr).add 16)))]) (by kernel_rfl) ?_ rfl
      clear hs; intro a hs
      refine go_run hs (op := (Op.load 22 (Operand.tmp 87))) (ty := 22) (dst := some 88) (g := none) (by kernel_rfl) (by kernel_rfl) (by kernel_rfl) (x_ld (E := eSapi_Regs) (off := 16) (p := (ad35 : Addr).add 16) (v := .int .u32 ((t30 : Sapi_Regs).H)) (Rd.of_own (hw.up 1)) (one_ok (t30 : Sapi_Regs)).1 (one_ok (t30 : Sapi_Regs)).2 (by kernel_rfl) (one_off _ _ _) (by kernel_rfl) (by kernel_rfl)) [5, 6, 7, 10, 11, 88] (L' := [(5, .bool t12), (6, .pointer (some ad22)), (7, .pointer (some ad35)), (10, .pointer (some ad58)), (11, .bool v76), (88, .int .u32 ((t30 : Sapi_Regs).H))]) (by kernel_rfl) ?_
      clear hs; intro a hs
      refine go_pvs 2 3 [5, 6, 7, 10, 11, 88, 89] hs (L' := [(5, .bool t12), (6, .pointer (some ad22)), (7, .pointer (some ad35)), (10, .pointer (some ad58)), (11, .bool v76), (88, .int .u32 ((t30 : Sapi_Regs).H)), (89, .pointer (some ((ad58 : Addr).add 16)))]) (by kernel_rfl) ?_ rfl
      clear hs; intro a hs
      obtain ⟨wd79, hx80, hw⟩ := x_put (P := Try.prog) (ty := 0) (t := 22) (x := (Operand.tmp 89)) (y := (Operand.tmp 88)) (off := 16) (p := (ad58 : Addr).add 16) (v := .int .u32 ((t30 : Sapi_Regs).H)) (vs := [.int .u32 ((t30 : Sapi_Regs).H)]) (i := 0) (e' := (({ ({ (a0 : Sapi_Regs) with R := vset ((a0 : Sapi_Regs).R) ((t18 : Sapi_Instr).A : Int).toNat (vx 0 ((t30 : Sapi_Regs).R) ((t18 : Sapi_Instr).A : Int).toNat) } : Sapi_Regs) with H := (t30 : Sapi_Regs).H } : Sapi_Regs) : Sapi_Regs)) hs hw rfl (one_ok ({ (a0 : Sapi_Regs) with R := vset ((a0 : Sapi_Regs).R) ((t18 : Sapi_Instr).A : Int).toNat (vx 0 ((t30 : Sapi_Regs).R) ((t18 : Sapi_Instr).A : Int).toNat) } : Sapi_Regs)).1 (one_ok ({ (a0 : Sapi_Regs) with R := vset ((a0 : Sapi_Regs).R) ((t18 : Sapi_Instr).A : Int).toNat (vx 0 ((t30 : Sapi_Regs).R) ((t18 : Sapi_Instr).A : Int).toNat) } : Sapi_Regs)).2 (by kernel_rfl) (one_off _ _ _) (by kernel_rfl) rfl (by kernel_rfl) (Nat.le_of_ble_eq_true rfl) (by simp [Value.oneCell']) (by kernel_rfl)
      refine go_unit hs (op := (Op.store 22 (Operand.tmp 89) (Operand.tmp 88))) (ty := 0) (dst := none) (g := none) (by kernel_rfl) (by kernel_rfl) (by kernel_rfl) hx80 [5, 6, 7, 10, 11] (L' := [(5, .bool t12), (6, .pointer (some ad22)), (7, .pointer (some ad35)), (10, .pointer (some ad58)), (11, .bool v76)]) (by kernel_rfl) ?_
      clear hs; intro a hs
      replace hw : St [] w0 wd79 [own 25 eSapi_Regs (some ad58) 1 [({ ({ (a0 : Sapi_Regs) with R := vset ((a0 : Sapi_Regs).R) ((t18 : Sapi_Instr).A : Int).toNat (vx 0 ((t30 : Sapi_Regs).R) ((t18 : Sapi_Instr).A : Int).toNat) } : Sapi_Regs) with H := (t30 : Sapi_Regs).H } : Sapi_Regs)], own 25 eSapi_Regs (some ad35) 1 [(t30 : Sapi_Regs)], own 27 eSapi_Instr (some ad22) 1 [(t18 : Sapi_Instr)], own 27 eSapi_Instr (some ad6) 1 [a1], own 25 eSapi_Regs (some ad2) 1 [a0]] := hw
      refine go_end (by kernel_rfl) ?_
      replace hw := hw.up 4
      replace hw := hw.up 4
      replace hw := hw.up 4
      replace hw := hw.up 4
      replace hw := hw.up 4
      replace hw := hw.only 5
      exact hJ7 ({ ({ (a0 : Sapi_Regs) with R := vset ((a0 : Sapi_Regs).R) ((t18 : Sapi_Instr).A : Int).toNat (vx 0 ((t30 : Sapi_Regs).R) ((t18 : Sapi_Instr).A : Int).toNat) } : Sapi_Regs) with H := (t30 : Sapi_Regs).H } : Sapi_Regs) v76 _ _ (hs.keep [5, 6, 7, 10, 11] (by kernel_rfl)) hw H
     ·replace H := ite_f H (ff hc)
      have hb81 := hc
      rw [hb81] at hs
      refine wp_skip ?_
      replace hw := hw.up 4
      replace hw := hw.up 4
      replace hw := hw.up 4
      replace hw := hw.up 4
      replace hw := hw.up 4
      replace hw := hw.only 5
      exact hJ7 ({ (a0 : Sapi_Regs) with R := vset ((a0 : Sapi_Regs).R) ((t18 : Sapi_Instr).A : Int).toNat (vx 0 ((t30 : Sapi_Regs).R) ((t18 : Sapi_Instr).A : Int).toNat) } : Sapi_Regs) v76 _ _ (hs.keep [5, 6, 7, 10, 11] (by kernel_rfl)) hw H
    refine go_region ?_
    refine go_pvs 0 2 [5, 6, 7, 10, 11, 77] hs (L' := [(5, .bool t12), (6, .pointer (some ad22)), (7, .pointer (some ad35)), (10, .pointer (some ad58)), (11, .bool v71), (77, .bool v71)]) (by kernel_rfl) ?_ rfl
    clear hs; intro a hs
    cases hb74 : v71
    ·replace H := ite_f H (ff hb74)
     rw [hb74] at hs
     refine go_pvs 2 11 [5, 6, 7, 10, 11, 86] hs (L' := [(5, .bool t12), (6, .pointer (some ad22)), (7, .pointer (some ad35)), (10, .pointer (some ad58)), (11, .bool false), (86, .bool false)]) (by kernel_rfl) ?_ rfl
     clear hs; intro a hs
     refine go_end (by kernel_rfl) ?_
     replace hw := hw.up 4
     replace hw := hw.up 4
     replace hw := hw.up 4
     replace hw := hw.up 4
     replace hw := hw.up 4
     replace hw := hw.only 5
     exact hJ6 false false _ _ (hs.keep [5, 6, 7, 10, 11, 86] (by kernel_rfl)) hw H
    ·replace H := ite_t H hb74
     rw [hb74] at hs
     refine go_pvs 2 3 [5, 6, 7, 10, 11, 77, 78] hs (L' := [(5, .bool t12), (6, .pointer (some ad22)), (7, .pointer (some ad35)), (10, .pointer (some ad58)), (11, .bool true), (77, .bool true), (78, .pointer (some ((ad22 : Addr).add 1)))]) (by kernel_rfl) ?_ rfl
     clear hs; intro a hs
     refine go_run hs (op := (Op.load 3 (Operand.tmp 78))) (ty := 3) (dst := some 79) (g := some (1, true)) (by kernel_rfl) (by kernel_rfl) (by kernel_rfl) (x_ld (E := eSapi_Instr) (off := 1) (p := (ad22 : Addr).add 1) (v := .int .i64 ((t18 : Sapi_Instr).Op)) (Rd.of_own (hw.up 2)) (one_ok (t18 : Sapi_Instr)).1 (one_ok (t18 : Sapi_Instr)).2 (by kernel_rfl) (one_off _ _ _) (by kernel_rfl) (by kernel_rfl)) [5, 6, 7, 10, 11, 77, 79] (L' := [(5, .bool t12), (6, .pointer (some ad22)), (7, .pointer (some ad35)), (10, .pointer (some ad58)), (11, .bool true), (77, .bool true), (79, .int .i64 ((t18 : Sapi_Instr).Op))]) (by kernel_rfl) ?_
     clear hs; intro a hs
     refine go_pvs 4 6 [5, 6, 7, 10, 11, 77, 81] hs (L' := [(5, .bool t12), (6, .pointer (some ad22)), (7, .pointer (some ad35)), (10, .pointer (some ad58)), (11, .bool true), (77, .bool true), (81, .bool (((t18 : Sapi_Instr).Op) == 10))]) (by kernel_rfl) ?_ rfl
     clear hs; intro a hs
     cases hb75 : (((t18 : Sapi_Instr).Op) == 10)
     ·replace H := ite_f H (beq_eq_false_iff_ne.1 hb75)
      rw [hb75] at hs
      refine go_pvs 6 7 [5, 6, 7, 10, 11, 77, 81, 82] hs (L' := [(5, .bool t12), (6, .pointer (some ad22)), (7, .pointer (some ad35)), (10, .pointer (some ad58)), (11, .bool true), (77, .bool true), (81, .bool false), (82, .pointer (some ((ad22 : Addr).add 1)))]) (by kernel_rfl) ?_ rfl
      clear hs; intro a hs
      refine go_run hs (op := (Op.load 3 (Operand.tmp 82))) (ty := 3) (dst := some 83) (g := some (5, false)) (by kernel_rfl) (by kernel_rfl) (by kernel_rfl) (x_ld (E := eSapi_Instr) (off := 1) (p := (ad22 : Addr).add 1) (v := .int .i64 ((t18 : Sapi_Instr).Op)) (Rd.of_own (hw.up 2)) (one_ok (t18 : Sapi_Instr)).1 (one_ok (t18 : Sapi_Instr)).2 (by kernel_rfl) (one_off _ _ _) (by kernel_rfl) (by kernel_rfl)) [5, 6, 7, 10, 11, 77, 81, 83] (L' := [(5, .bool t12), (6, .pointer (some ad22)), (7, .pointer (some ad35)), (10, .pointer (some ad58)), (11, .bool true), (77, .bool true), (81, .bool false), (83, .int .i64 ((t18 : Sapi_Instr).Op))]) (by kernel_rfl) ?_
      clear hs; intro a hs
      refine go_pvs 8 11 [5, 6, 7, 10, 11, 86] hs (L' := [(5, .bool t12), (6, .pointer (some ad22)), (7, .pointer (some ad35)), (10, .pointer (some ad58)), (11, .bool true), (86, .bool (((t18 : Sapi_Instr).Op) == 11))]) (by kernel_rfl) ?_ rfl
      clear hs; intro a hs
      refine go_end (by kernel_rfl) ?_
      replace hw := hw.up 4
      replace hw := hw.up 4
      replace hw := hw.up 4
      replace hw := hw.up 4
      replace hw := hw.up 4
      replace hw := hw.only 5
      exact hJ6 true (((t18 : Sapi_Instr).Op) == 11) _ _ (hs.keep [5, 6, 7, 10, 11, 86] (by kernel_rfl)) hw H
     ·replace H := ite_t H (beq_iff_eq.1 hb75)
      rw [hb75] at hs
      refine go_pvs 6 11 [5, 6, 7, 10, 11, 86] hs (L' := [(5, .bool t12), (6, .pointer (some ad22)), (7, .pointer (some ad35)), (10, .pointer (some ad58)), (11, .bool true), (86, .bool true)]) (by kernel_rfl) ?_ rfl
      clear hs; intro a hs
      refine go_end (by kernel_rfl) ?_
      replace hw := hw.up 4
      replace hw := hw.up 4
      replace hw := hw.up 4
      replace hw := hw.up 4
      replace hw := hw.up 4
      replace hw := hw.only 5
      exact hJ6 true true _ _ (hs.keep [5, 6, 7, 10, 11, 86] (by kernel_rfl)) hw H
   refine go_region ?_
   refine go_pvs 0 1 [5, 6, 7, 10, 68] hs (L' := [(5, .bool t12), (6, .pointer (some ad22)), (7, .pointer (some ad35)), (10, .pointer (some ad58)), (68, .pointer (some ((ad22 : Addr).add 0)))]) (by kernel_rfl) ?_ rfl
   clear hs; intro a hs
   refine go_run hs (op := (Op.load 3 (Operand.tmp 68))) (ty := 3) (dst := some 69) (g := none) (by kernel_rfl) (by kernel_rfl) (by kernel_rfl) (x_ld (E := eSapi_Instr) (off := 0) (p := (ad22 : Addr).add 0) (v := .int .i64 ((t18 : Sapi_Instr).Kind)) (Rd.of_own (hw.up 2)) (one_ok (t18 : Sapi_Instr)).1 (one_ok (t18 : Sapi_Instr)).2 (by kernel_rfl) (one_off _ _ _) (by kernel_rfl) (by kernel_rfl)) [5, 6, 7, 10, 69] (L' := [(5, .bool t12), (6, .pointer (some ad22)), (7, .pointer (some ad35)), (10, .pointer (some ad58)), (69, .int .i64 ((t18 : Sapi_Instr).Kind))]) (by kernel_rfl) ?_
   clear hs; intro a hs
   refine go_pvs 2 4 [5, 6, 7, 10, 71] hs (L' := [(5, .bool t12), (6, .pointer (some ad22)), (7, .pointer (some ad35)), (10, .pointer (some ad58)), (71, .bool (((t18 : Sapi_Instr).Kind) == 1))]) (by kernel_rfl) ?_ rfl
   clear hs; intro a hs
   cases hb70 : (((t18 : Sapi_Instr).Kind) == 1)
   ·replace H := ite_f H (beq_eq_false_iff_ne.1 hb70)
    rw [hb70] at hs
    refine go_pvs 4 5 [5, 6, 7, 10, 71, 72] hs (L' := [(5, .bool t12), (6, .pointer (some ad22)), (7, .pointer (some ad35)), (10, .pointer (some ad58)), (71, .bool false), (72, .pointer (some ((ad22 : Addr).add 0)))]) (by kernel_rfl) ?_ rfl
    clear hs; intro a hs
    refine go_run hs (op := (Op.load 3 (Operand.tmp 72))) (ty := 3) (dst := some 73) (g := some (3, false)) (by kernel_rfl) (by kernel_rfl) (by kernel_rfl) (x_ld (E := eSapi_Instr) (off := 0) (p := (ad22 : Addr).add 0) (v := .int .i64 ((t18 : Sapi_Instr).Kind)) (Rd.of_own (hw.up 2)) (one_ok (t18 : Sapi_Instr)).1 (one_ok (t18 : Sapi_Instr)).2 (by kernel_rfl) (one_off _ _ _) (by kernel_rfl) (by kernel_rfl)) [5, 6, 7, 10, 71, 73] (L' := [(5, .bool t12), (6, .pointer (some ad22)), (7, .pointer (some ad35)), (10, .pointer (some ad58)), (71, .bool false), (73, .int .i64 ((t18 : Sapi_Instr).Kind))]) (by kernel_rfl) ?_
    clear hs; intro a hs
    refine go_pvs 6 9 [5, 6, 7, 10, 11] hs (L' := [(5, .bool t12), (6, .pointer (some ad22)), (7, .pointer (some ad35)), (10, .pointer (some ad58)), (11, .bool (((t18 : Sapi_Instr).Kind) == 2))]) (by kernel_rfl) ?_ rfl
    clear hs; intro a hs
    refine go_end (by kernel_rfl) ?_
    replace hw := hw.up 4
    replace hw := hw.up 4
    replace hw := hw.up 4
    replace hw := hw.up 4
    replace hw := hw.up 4
    replace hw := hw.only 5
    exact hJ5 (((t18 : Sapi_Instr).Kind) == 2) _ _ (hs.keep [5, 6, 7, 10, 11] (by kernel_rfl)) hw H
   ·replace H := ite_t H (beq_iff_eq.1 hb70)
    rw [hb70] at hs
    refine go_pvs 4 9 [5, 6, 7, 10, 11] hs (L' := [(5, .bool t12), (6, .pointer (some ad22)), (7, .pointer (some ad35)), (10, .pointer (some ad58)), (11, .bool true)]) (by kernel_rfl) ?_ rfl
    clear hs; intro a hs
    refine go_end (by kernel_rfl) ?_
    replace hw := hw.up 4
    replace hw := hw.up 4
    replace hw := hw.up 4
    replace hw := hw.up 4
    replace hw := hw.up 4
    replace hw := hw.only 5
    exact hJ5 true _ _ (hs.keep [5, 6, 7, 10, 11] (by kernel_rfl)) hw H
  refine go_seq_k fun K46 hK46 => ?_
  have hJ2 : ∀ (v48 : Bool) (a : Act) (w : World), Slots a 119 [(2, .pointer (some ad2)), (5, .bool t12), (6, .pointer (some ad22)), (7, .pointer (some ad35)), (8, .int .i64 t31), (38, .bool v48)] → St [] w0 w [own 25 eSapi_Regs (some ad35) 1 [(t30 : Sapi_Regs)], own 27 eSapi_Instr (some ad22) 1 [(t18 : Sapi_Instr)], own 27 eSapi_Instr (some ad6) 1 [a1], own 25 eSapi_Regs (some ad2) 1 [a0]] → rivetlaw04_AluKeeps.j2 t12 t30 a0 t31 t18 v48 = some r → K46 a w := by
   intro v48 a w hs hw H
   unfold rivetlaw04_AluKeeps.j2 at H
   refine hK46 _ _ ?_
   refine go_cond hs v48 (by kernel_rfl) (fun hc => ?_) (fun hc => ?_)
   ·replace H := ite_t H hc
    have hb49 := hc
    rw [hb49] at hs
    refine go_seq_k fun K50 hK50 => ?_
    have hJ3 : ∀ (v55 : Bool) (a : Act) (w : World), Slots a 119 [(4, .bool v55)] → St [] w0 w [own 25 eSapi_Regs (some ad35) 1 [(t30 : Sapi_Regs)], own 27 eSapi_Instr (some ad22) 1 [(t18 : Sapi_Instr)], own 27 eSapi_Instr (some ad6) 1 [a1], own 25 eSapi_Regs (some ad2) 1 [a0]] → rivetlaw04_AluKeeps.j3 v55 = some r → K50 a w := by
     intro v55 a w hs hw H
     unfold rivetlaw04_AluKeeps.j3 at H
     refine hK50 _ _ ?_
     refine wp_ret ?_
     refine th_ret ?_
     obtain rfl := Option.some.inj H
     refine ret1 (t := 4) (v := .bool v55) hs (by kernel_rfl) (by kernel_rfl) ?_
     exact ⟨rfl, hw.only 0⟩
    refine go_region ?_
    refine go_pvs 0 2 [2, 6, 7, 8, 40] hs (L' := [(2, .pointer (some ad2)), (6, .pointer (some ad22)), (7, .pointer (some ad35)), (8, .int .i64 t31), (40, .bool t12)]) (by kernel_rfl) ?_ rfl
    clear hs; intro a hs
    cases hb51 : t12
    ·replace H := ite_f H (ff hb51)
     rw [hb51] at hs
     refine go_pvs 2 20 [4] hs (L' := [(4, .bool false)]) (by kernel_rfl) ?_ rfl
     clear hs; intro a hs
     refine go_end (by kernel_rfl) ?_
     replace hw := hw.up 3
     replace hw := hw.up 3
     replace hw := hw.up 3
     replace hw := hw.up 3
     replace hw := hw.only 4
     exact hJ3 false _ _ (hs.keep [4] (by kernel_rfl)) hw H
    ·replace H := ite_t H hb51
     rw [hb51] at hs
     refine go_run hs (op := (Op.load 25 (Operand.tmp 7))) (ty := 25) (dst := some 41) (g := some (1, true)) (by kernel_rfl) (by kernel_rfl) (by kernel_rfl) (x_lds (E := eSapi_Regs) (off := 0) (p := ad35) (cs := (eSapi_Regs.enc (t30 : Sapi_Regs))) (Rd.of_own (hw.up 0)) (one_ok (t30 : Sapi_Regs)).1 (one_ok (t30 : Sapi_Regs)).2 (by kernel_rfl) (one_at _ _) (by kernel_rfl) (by kernel_rfl) (by kernel_rfl)) [2, 6, 8, 40, 41] (L' := [(2, .pointer (some ad2)), (6, .pointer (some ad22)), (8, .int .i64 t31), (40, .bool true), (41, .agg (eSapi_Regs.enc (t30 : Sapi_Regs)).toArray)]) (by kernel_rfl) ?_
     clear hs; intro a hs
     refine go_run hs (op := (Op.load 25 (Operand.tmp 2))) (ty := 25) (dst := some 42) (g := some (1, true)) (by kernel_rfl) (by kernel_rfl) (by kernel_rfl) (x_lds (E := eSapi_Regs) (off := 0) (p := ad2) (cs := (eSapi_Regs.enc a0)) (Rd.of_own (hw.up 3)) (one_ok a0).1 (one_ok a0).2 (by kernel_rfl) (one_at _ _) (by kernel_rfl) (by kernel_rfl) (by kernel_rfl)) [6, 8, 40, 41, 42] (L' := [(6, .pointer (some ad22)), (8, .int .i64 t31), (40, .bool true), (41, .agg (eSapi_Regs.enc (t30 : Sapi_Regs)).toArray), (42, .agg (eSapi_Regs.enc a0).toArray)]) (by kernel_rfl) ?_
     clear hs; intro a hs
     refine go_run hs (op := (Op.binOp BinOp.eql 25 (Operand.tmp 41) (Operand.tmp 42) 25)) (ty := 4) (dst := some 43) (g := some (1, true)) (by kernel_rfl) (by kernel_rfl) (by kernel_rfl) (x_eql (xs := (eSapi_Regs.enc (t30 : Sapi_Regs)).toArray) (ys := (eSapi_Regs.enc a0).toArray) (r := ((decide (((t30 : Sapi_Regs).R) = a0.R)) && ((((t30 : Sapi_Regs).H) == a0.H) && ((((t30 : Sapi_Regs).N) == a0.N) && ((((t30 : Sapi_Regs).Z) == a0.Z) && ((((t30 : Sapi_Regs).C) == a0.C) && ((((t30 : Sapi_Regs).V) == a0.V) && true))))))) (by kernel_rfl) (by kernel_rfl) (by kernel_rfl) (eq_struct Try.underlying25 (by kernel_rfl) (eq_cons (a := .agg (eA23.enc ((t30 : Sapi_Regs).R)).toArray) (b := .agg (eA23.enc a0.R).toArray) (r := (decide (((t30 : Sapi_Regs).R) = a0.R))) (s := ((((t30 : Sapi_Regs).H) == a0.H) && ((((t30 : Sapi_Regs).N) == a0.N) && ((((t30 : Sapi_Regs).Z) == a0.Z) && ((((t30 : Sapi_Regs).C) == a0.C) && ((((t30 : Sapi_Regs).V) == a0.V) && true)))))) (by kernel_rfl) (part_pv (by kernel_rfl)) (part_pv (by kernel_rfl)) (eq_vec (e := 22) (k' := .u32) (k := .u32) ((t30 : Sapi_Regs).R) a0.R (by kernel_rfl) (by kernel_rfl) (by kernel_rfl) (by kernel_rfl) (by kernel_rfl)) (eq_cons (a := .int .u32 ((t30 : Sapi_Regs).H)) (b := .int .u32 a0.H) (r := (((t30 : Sapi_Regs).H) == a0.H)) (s := ((((t30 : Sapi_Regs).N) == a0.N) && ((((t30 : Sapi_Regs).Z) == a0.Z) && ((((t30 : Sapi_Regs).C) == a0.C) && ((((t30 : Sapi_Regs).V) == a0.V) && true))))) (by kernel_rfl) (part_pv (by kernel_rfl)) (part_pv (by kernel_rfl)) (eq_pv (by kernel_rfl)) (eq_cons (a := .bool ((t30 : Sapi_Regs).N)) (b := .bool a0.N) (r := (((t30 : Sapi_Regs).N) == a0.N)) (s := ((((t30 : Sapi_Regs).Z) == a0.Z) && ((((t30 : Sapi_Regs).C) == a0.C) && ((((t30 : Sapi_Regs).V) == a0.V) && true)))) (by kernel_rfl) (part_pv (by kernel_rfl)) (part_pv (by kernel_rfl)) (eq_pv (by kernel_rfl)) (eq_cons (a := .bool ((t30 : Sapi_Regs).Z)) (b := .bool a0.Z) (r := (((t30 : Sapi_Regs).Z) == a0.Z)) (s := ((((t30 : Sapi_Regs).C) == a0.C) && ((((t30 : Sapi_Regs).V) == a0.V) && true))) (by kernel_rfl) (part_pv (by kernel_rfl)) (part_pv (by kernel_rfl)) (eq_pv (by kernel_rfl)) (eq_cons (a := .bool ((t30 : Sapi_Regs).C)) (b := .bool a0.C) (r := (((t30 : Sapi_Regs).C) == a0.C)) (s := ((((t30 : Sapi_Regs).V) == a0.V) && true)) (by kernel_rfl) (part_pv (by kernel_rfl)) (part_pv (by kernel_rfl)) (eq_pv (by kernel_rfl)) (eq_cons (a := .bool ((t30 : Sapi_Regs).V)) (b := .bool a0.V) (r := (((t30 : Sapi_Regs).V) == a0.V)) (s := true) (by kernel_rfl) (part_pv (by kernel_rfl)) (part_pv (by kernel_rfl)) (eq_pv (by kernel_rfl)) eq_nil)))))))) [6, 8, 40, 43] (L' := [(6, .pointer (some ad22)), (8, .int .i64 t31), (40, .bool true), (43, .bool ((decide (((t30 : Sapi_Regs).R) = a0.R)) && ((((t30 : Sapi_Regs).H) == a0.H) && ((((t30 : Sapi_Regs).N) == a0.N) && ((((t30 : Sapi_Regs).Z) == a0.Z) && ((((t30 : Sapi_Regs).C) == a0.C) && ((((t30 : Sapi_Regs).V) == a0.V) && true)))))))]) (by kernel_rfl) ?_
     clear hs; intro a hs
     refine go_pvs 5 7 [6, 8, 45] hs (L' := [(6, .pointer (some ad22)), (8, .int .i64 t31), (45, .bool ((decide (((t30 : Sapi_Regs).R) = a0.R)) && ((((t30 : Sapi_Regs).H) == a0.H) && ((((t30 : Sapi_Regs).N) == a0.N) && ((((t30 : Sapi_Regs).Z) == a0.Z) && ((((t30 : Sapi_Regs).C) == a0.C) && ((((t30 : Sapi_Regs).V) == a0.V) && true)))))))]) (by kernel_rfl) ?_ rfl
     clear hs; intro a hs
     cases hb52 : ((decide (((t30 : Sapi_Regs).R) = a0.R)) && ((((t30 : Sapi_Regs).H) == a0.H) && ((((t30 : Sapi_Regs).N) == a0.N) && ((((t30 : Sapi_Regs).Z) == a0.Z) && ((((t30 : Sapi_Regs).C) == a0.C) && ((((t30 : Sapi_Regs).V) == a0.V) && true))))))
     ·replace H := ite_f H (ff hb52)
      rw [hb52] at hs
      refine go_pvs 7 20 [4] hs (L' := [(4, .bool false)]) (by kernel_rfl) ?_ rfl
      clear hs; intro a hs
      refine go_end (by kernel_rfl) ?_
      replace hw := hw.up 3
      replace hw := hw.up 3
      replace hw := hw.up 3
      replace hw := hw.up 3
      replace hw := hw.only 4
      exact hJ3 false _ _ (hs.keep [4] (by kernel_rfl)) hw H
     ·replace H := ite_t H hb52
      rw [hb52] at hs
      refine go_pvs 7 10 [6, 8, 45, 48] hs (L' := [(6, .pointer (some ad22)), (8, .int .i64 t31), (45, .bool true), (48, .bool (t31 == 0))]) (by kernel_rfl) ?_ rfl
      clear hs; intro a hs
      cases hb53 : (t31 == 0)
      ·replace H := ite_f H (beq_eq_false_iff_ne.1 hb53)
       rw [hb53] at hs
       refine go_pvs 10 13 [6, 45, 48, 51] hs (L' := [(6, .pointer (some ad22)), (45, .bool true), (48, .bool false), (51, .bool (t31 == 5))]) (by kernel_rfl) ?_ rfl
       clear hs; intro a hs
       cases hb54 : (t31 == 5)
       ·replace H := ite_f H (beq_eq_false_iff_ne.1 hb54)
        rw [hb54] at hs
        refine go_pvs 13 20 [4] hs (L' := [(4, .bool false)]) (by kernel_rfl) ?_ rfl
        clear hs; intro a hs
        refine go_end (by kernel_rfl) ?_
        replace hw := hw.up 3
        replace hw := hw.up 3
        replace hw := hw.up 3
        replace hw := hw.up 3
        replace hw := hw.only 4
        exact hJ3 false _ _ (hs.keep [4] (by kernel_rfl)) hw H
       ·replace H := ite_t H (beq_iff_eq.1 hb54)
        rw [hb54] at hs
        refine go_pvs 13 14 [45, 48, 51, 52] hs (L' := [(45, .bool true), (48, .bool false), (51, .bool true), (52, .pointer (some ((ad22 : Addr).add 1)))]) (by kernel_rfl) ?_ rfl
        clear hs; intro a hs
        refine go_run hs (op := (Op.load 3 (Operand.tmp 52))) (ty := 3) (dst := some 53) (g := some (12, true)) (by kernel_rfl) (by kernel_rfl) (by kernel_rfl) (x_ld (E := eSapi_Instr) (off := 1) (p := (ad22 : Addr).add 1) (v := .int .i64 ((t18 : Sapi_Instr).Op)) (Rd.of_own (hw.up 1)) (one_ok (t18 : Sapi_Instr)).1 (one_ok (t18 : Sapi_Instr)).2 (by kernel_rfl) (one_off _ _ _) (by kernel_rfl) (by kernel_rfl)) [45, 48, 51, 53] (L' := [(45, .bool true), (48, .bool false), (51, .bool true), (53, .int .i64 ((t18 : Sapi_Instr).Op))]) (by kernel_rfl) ?_
        clear hs; intro a hs
        refine go_pvs 15 20 [4] hs (L' := [(4, .bool (((t18 : Sapi_Instr).Op) == 11))]) (by kernel_rfl) ?_ rfl
        clear hs; intro a hs
        refine go_end (by kernel_rfl) ?_
        replace hw := hw.up 3
        replace hw := hw.up 3
        replace hw := hw.up 3
        replace hw := hw.up 3
        replace hw := hw.only 4
        exact hJ3 (((t18 : Sapi_Instr).Op) == 11) _ _ (hs.keep [4] (by kernel_rfl)) hw H
      ·replace H := ite_t H (beq_iff_eq.1 hb53)
       rw [hb53] at hs
       refine go_pvs 10 20 [4] hs (L' := [(4, .bool true)]) (by kernel_rfl) ?_ rfl
       clear hs; intro a hs
       refine go_end (by kernel_rfl) ?_
       replace hw := hw.up 3
       replace hw := hw.up 3
       replace hw := hw.up 3
       replace hw := hw.up 3
       replace hw := hw.only 4
       exact hJ3 true _ _ (hs.keep [4] (by kernel_rfl)) hw H
   ·replace H := ite_f H (ff hc)
    have hb56 := hc
    rw [hb56] at hs
    refine wp_skip ?_
    replace hw := hw.up 3
    replace hw := hw.up 3
    replace hw := hw.up 3
    replace hw := hw.up 3
    replace hw := hw.only 4
    exact hJ4 _ _ (hs.keep [2, 5, 6, 7] (by kernel_rfl)) hw H
  refine go_region ?_
  refine go_pvs 0 3 [2, 5, 6, 7, 8, 9, 36] hs (L' := [(2, .pointer (some ad2)), (5, .bool t12), (6, .pointer (some ad22)), (7, .pointer (some ad35)), (8, .int .i64 t31), (9, .bool v44), (36, .bool (t31 != 0))]) (by kernel_rfl) ?_ rfl
  clear hs; intro a hs
  cases hb47 : (t31 != 0)
  ·replace H := ite_t H (bne_eq_false_iff_eq.1 hb47)
   rw [hb47] at hs
   refine go_pvs 3 5 [2, 5, 6, 7, 8, 38] hs (L' := [(2, .pointer (some ad2)), (5, .bool t12), (6, .pointer (some ad22)), (7, .pointer (some ad35)), (8, .int .i64 t31), (38, .bool v44)]) (by kernel_rfl) ?_ rfl
   clear hs; intro a hs
   refine go_end (by kernel_rfl) ?_
   replace hw := hw.up 3
   replace hw := hw.up 3
   replace hw := hw.up 3
   replace hw := hw.up 3
   replace hw := hw.only 4
   exact hJ2 v44 _ _ (hs.keep [2, 5, 6, 7, 8, 38] (by kernel_rfl)) hw H
  ·replace H := ite_f H (bne_iff_ne.1 hb47)
   rw [hb47] at hs
   refine go_pvs 3 5 [2, 5, 6, 7, 8, 38] hs (L' := [(2, .pointer (some ad2)), (5, .bool t12), (6, .pointer (some ad22)), (7, .pointer (some ad35)), (8, .int .i64 t31), (38, .bool true)]) (by kernel_rfl) ?_ rfl
   clear hs; intro a hs
   refine go_end (by kernel_rfl) ?_
   replace hw := hw.up 3
   replace hw := hw.up 3
   replace hw := hw.up 3
   replace hw := hw.up 3
   replace hw := hw.only 4
   exact hJ2 true _ _ (hs.keep [2, 5, 6, 7, 8, 38] (by kernel_rfl)) hw H
 refine go_region ?_
 refine go_pvs 0 1 [2, 5, 6, 7, 8, 21] hs (L' := [(2, .pointer (some ad2)), (5, .bool t12), (6, .pointer (some ad22)), (7, .pointer (some ad35)), (8, .int .i64 t31), (21, .pointer (some ((ad22 : Addr).add 0)))]) (by kernel_rfl) ?_ rfl
 clear hs; intro a hs
 refine go_run hs (op := (Op.load 3 (Operand.tmp 21))) (ty := 3) (dst := some 22) (g := none) (by kernel_rfl) (by kernel_rfl) (by kernel_rfl) (x_ld (E := eSapi_Instr) (off := 0) (p := (ad22 : Addr).add 0) (v := .int .i64 ((t18 : Sapi_Instr).Kind)) (Rd.of_own (hw.up 1)) (one_ok (t18 : Sapi_Instr)).1 (one_ok (t18 : Sapi_Instr)).2 (by kernel_rfl) (one_off _ _ _) (by kernel_rfl) (by kernel_rfl)) [2, 5, 6, 7, 8, 22] (L' := [(2, .pointer (some ad2)), (5, .bool t12), (6, .pointer (some ad22)), (7, .pointer (some ad35)), (8, .int .i64 t31), (22, .int .i64 ((t18 : Sapi_Instr).Kind))]) (by kernel_rfl) ?_
 clear hs; intro a hs
 refine go_pvs 2 4 [2, 5, 6, 7, 8, 24] hs (L' := [(2, .pointer (some ad2)), (5, .bool t12), (6, .pointer (some ad22)), (7, .pointer (some ad35)), (8, .int .i64 t31), (24, .bool (((t18 : Sapi_Instr).Kind) == 5))]) (by kernel_rfl) ?_ rfl
 clear hs; intro a hs
 cases hb42 : (((t18 : Sapi_Instr).Kind) == 5)
 ·replace H := ite_f H (beq_eq_false_iff_ne.1 hb42)
  rw [hb42] at hs
  refine go_pvs 4 5 [2, 5, 6, 7, 8, 24, 25] hs (L' := [(2, .pointer (some ad2)), (5, .bool t12), (6, .pointer (some ad22)), (7, .pointer (some ad35)), (8, .int .i64 t31), (24, .bool false), (25, .pointer (some ((ad22 : Addr).add 0)))]) (by kernel_rfl) ?_ rfl
  clear hs; intro a hs
  refine go_run hs (op := (Op.load 3 (Operand.tmp 25))) (ty := 3) (dst := some 26) (g := some (3, false)) (by kernel_rfl) (by kernel_rfl) (by kernel_rfl) (x_ld (E := eSapi_Instr) (off := 0) (p := (ad22 : Addr).add 0) (v := .int .i64 ((t18 : Sapi_Instr).Kind)) (Rd.of_own (hw.up 1)) (one_ok (t18 : Sapi_Instr)).1 (one_ok (t18 : Sapi_Instr)).2 (by kernel_rfl) (one_off _ _ _) (by kernel_rfl) (by kernel_rfl)) [2, 5, 6, 7, 8, 24, 26] (L' := [(2, .pointer (some ad2)), (5, .bool t12), (6, .pointer (some ad22)), (7, .pointer (some ad35)), (8, .int .i64 t31), (24, .bool false), (26, .int .i64 ((t18 : Sapi_Instr).Kind))]) (by kernel_rfl) ?_
  clear hs; intro a hs
  refine go_pvs 6 9 [2, 5, 6, 7, 8, 29] hs (L' := [(2, .pointer (some ad2)), (5, .bool t12), (6, .pointer (some ad22)), (7, .pointer (some ad35)), (8, .int .i64 t31), (29, .bool (((t18 : Sapi_Instr).Kind) == 6))]) (by kernel_rfl) ?_ rfl
  clear hs; intro a hs
  cases hb43 : (((t18 : Sapi_Instr).Kind) == 6)
  ·replace H := ite_f H (beq_eq_false_iff_ne.1 hb43)
   rw [hb43] at hs
   refine go_pvs 9 10 [2, 5, 6, 7, 8, 29, 30] hs (L' := [(2, .pointer (some ad2)), (5, .bool t12), (6, .pointer (some ad22)), (7, .pointer (some ad35)), (8, .int .i64 t31), (29, .bool false), (30, .pointer (some ((ad22 : Addr).add 0)))]) (by kernel_rfl) ?_ rfl
   clear hs; intro a hs
   refine go_run hs (op := (Op.load 3 (Operand.tmp 30))) (ty := 3) (dst := some 31) (g := some (8, false)) (by kernel_rfl) (by kernel_rfl) (by kernel_rfl) (x_ld (E := eSapi_Instr) (off := 0) (p := (ad22 : Addr).add 0) (v := .int .i64 ((t18 : Sapi_Instr).Kind)) (Rd.of_own (hw.up 1)) (one_ok (t18 : Sapi_Instr)).1 (one_ok (t18 : Sapi_Instr)).2 (by kernel_rfl) (one_off _ _ _) (by kernel_rfl) (by kernel_rfl)) [2, 5, 6, 7, 8, 29, 31] (L' := [(2, .pointer (some ad2)), (5, .bool t12), (6, .pointer (some ad22)), (7, .pointer (some ad35)), (8, .int .i64 t31), (29, .bool false), (31, .int .i64 ((t18 : Sapi_Instr).Kind))]) (by kernel_rfl) ?_
   clear hs; intro a hs
   refine go_pvs 11 14 [2, 5, 6, 7, 8, 9] hs (L' := [(2, .pointer (some ad2)), (5, .bool t12), (6, .pointer (some ad22)), (7, .pointer (some ad35)), (8, .int .i64 t31), (9, .bool (((t18 : Sapi_Instr).Kind) == 7))]) (by kernel_rfl) ?_ rfl
   clear hs; intro a hs
   refine go_end (by kernel_rfl) ?_
   replace hw := hw.up 3
   replace hw := hw.up 3
   replace hw := hw.up 3
   replace hw := hw.up 3
   replace hw := hw.only 4
   exact hJ1 (((t18 : Sapi_Instr).Kind) == 7) _ _ (hs.keep [2, 5, 6, 7, 8, 9] (by kernel_rfl)) hw H
  ·replace H := ite_t H (beq_iff_eq.1 hb43)
   rw [hb43] at hs
   refine go_pvs 9 14 [2, 5, 6, 7, 8, 9] hs (L' := [(2, .pointer (some ad2)), (5, .bool t12), (6, .pointer (some ad22)), (7, .pointer (some ad35)), (8, .int .i64 t31), (9, .bool true)]) (by kernel_rfl) ?_ rfl
   clear hs; intro a hs
   refine go_end (by kernel_rfl) ?_
   replace hw := hw.up 3
   replace hw := hw.up 3
   replace hw := hw.up 3
   replace hw := hw.up 3
   replace hw := hw.only 4
   exact hJ1 true _ _ (hs.keep [2, 5, 6, 7, 8, 9] (by kernel_rfl)) hw H
 ·replace H := ite_t H (beq_iff_eq.1 hb42)
  rw [hb42] at hs
  refine go_pvs 4 14 [2, 5, 6, 7, 8, 9] hs (L' := [(2, .pointer (some ad2)), (5, .bool t12), (6, .pointer (some ad22)), (7, .pointer (some ad35)), (8, .int .i64 t31), (9, .bool true)]) (by kernel_rfl) ?_ rfl
  clear hs; intro a hs
  refine go_end (by kernel_rfl) ?_
  replace hw := hw.up 3
  replace hw := hw.up 3
  replace hw := hw.up 3
  replace hw := hw.up 3
  replace hw := hw.only 4
  exact hJ1 true _ _ (hs.keep [2, 5, 6, 7, 8, 9] (by kernel_rfl)) hw H

end Go.Proofs.Ytckefpenekolhaa.T04
