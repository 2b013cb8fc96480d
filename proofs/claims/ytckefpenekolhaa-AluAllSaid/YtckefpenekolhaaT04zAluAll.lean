/- YtckefpenekolhaaT04zAluAll: Go functions told as plain ones, each with a proof that its call comes to what is told, part 1. Condition of each: that the plain function comes to a value. -/
import Derived.Test.YtckefpenekolhaaT04
import Derived.Test.YtckefpenekolhaaEJ
import Derived.Test.YtckefpenekolhaaProg
namespace Go.Proofs.Ytckefpenekolhaa.T04
open Go Go.RowKit Go.Proofs.Ytckefpenekolhaa.E
set_option linter.unusedVariables false
set_option linter.unusedSimpArgs false
def eA23 : Enc (Vector Int 16) := ⟨16, fun x => [.int .u32 (vx 0 x 0), .int .u32 (vx 0 x 1), .int .u32 (vx 0 x 2), .int .u32 (vx 0 x 3), .int .u32 (vx 0 x 4), .int .u32 (vx 0 x 5), .int .u32 (vx 0 x 6), .int .u32 (vx 0 x 7), .int .u32 (vx 0 x 8), .int .u32 (vx 0 x 9), .int .u32 (vx 0 x 10), .int .u32 (vx 0 x 11), .int .u32 (vx 0 x 12), .int .u32 (vx 0 x 13), .int .u32 (vx 0 x 14), .int .u32 (vx 0 x 15)], (Vector.replicate 16 0), by decide, fun _ => rfl, fun x u hu => by simp at hu; rcases hu with rfl | rfl | rfl | rfl | rfl | rfl | rfl | rfl | rfl | rfl | rfl | rfl | rfl | rfl | rfl | rfl <;> rfl⟩
/-! rivet/rivetlaw04.AluAll: function 8 -/
noncomputable def rivetlaw04_AluAll.j2 (v93 : Bool) : Option Bool := some v93
noncomputable def rivetlaw04_AluAll.j1 (t12 : Bool) (t18 : Sapi_Regs) (t31 : Sapi_Regs) (t19 : Int) (t32 : Int) (t47 : Sapi_Regs) (t57 : Sapi_Regs) (t48 : Int) (t58 : Int) (a0 : Sapi_Regs) (a2 : Int) : Option Bool := (if t12 = true then (if ((decide (((t18 : Sapi_Regs).R) = ((t31 : Sapi_Regs).R))) && ((((t18 : Sapi_Regs).H) == ((t31 : Sapi_Regs).H)) && ((((t18 : Sapi_Regs).N) == ((t31 : Sapi_Regs).N)) && ((((t18 : Sapi_Regs).Z) == ((t31 : Sapi_Regs).Z)) && ((((t18 : Sapi_Regs).C) == ((t31 : Sapi_Regs).C)) && ((((t18 : Sapi_Regs).V) == ((t31 : Sapi_Regs).V)) && true)))))) = true then (if t19 = t32 then (if ((decide (t47.R = t57.R)) && ((t47.H == t57.H) && ((t47.N == t57.N) && ((t47.Z == t57.Z) && ((t47.C == t57.C) && ((t47.V == t57.V) && true)))))) = true then (if t48 = t58 then ((alu_Taken a0 a2).bind fun t88 => (((rivetref04_Taken a0 a2).bind fun t91 => (rivetlaw04_AluAll.j2 (t88 == t91))))) else rivetlaw04_AluAll.j2 false) else rivetlaw04_AluAll.j2 false) else rivetlaw04_AluAll.j2 false) else rivetlaw04_AluAll.j2 false) else rivetlaw04_AluAll.j2 false)
noncomputable def rivetlaw04_AluAll.b64 (a0 : Sapi_Regs) (v65 : Int) : Option (Int ⊕ (Ex Bool Unit)) := (if v65 < 17 then ((alu_Taken a0 v65).bind fun t72 => (((rivetref04_Taken a0 v65).bind fun t75 => ((if (t72 != t75) = true then some (.inr (.ret false)) else some (.inl (w64 (v65 + 1)))))))) else some (.inr (.done ())))
noncomputable def rivetlaw04_AluAll (a0 : Sapi_Regs) (a1 : Sapi_Instr) (a2 : Int) : Option Bool := ((rivetlaw04_shown).bind fun t12 => (((alu_Do a0 a1).bind fun ⟨t18, t19⟩ => (((rivetref04_Do a0 a1).bind fun ⟨t31, t32⟩ => (((rivetref03_Fit a1).bind fun t44 => (((alu_Do a0 t44).bind fun ⟨t47, t48⟩ => (((rivetref03_Fit a1).bind fun t54 => (((rivetref04_Do a0 t54).bind fun ⟨t57, t58⟩ => (((loopO (fun (σ : Int) => rivetlaw04_AluAll.b64 a0 σ) (-1)).bind fun e => match e with | .ret x => some x | .done e => rivetlaw04_AluAll.j1 t12 t18 t31 t19 t32 t47 t57 t48 t58 a0 a2)))))))))))))))
set_option maxRecDepth 100000 in
set_option maxHeartbeats 4000000 in
theorem rivetlaw04_AluAll.calls (a0 : Sapi_Regs) (a1 : Sapi_Instr) (a2 : Int) (r : Bool) (w0 : World) (H : rivetlaw04_AluAll a0 a1 a2 = some r) :
    Calls Try.prog 8 #[.agg (eSapi_Regs.enc a0).toArray, .agg (eSapi_Instr.enc a1).toArray, .int .i64 a2] w0 fun e w' => e = .returned (.bool r) ∧ St [] w0 w' [] := by
 have hw : St [] w0 w0 [] := St.nil w0
 unfold rivetlaw04_AluAll at H
 refine go_fn Try.func8 rfl 85 Try.ntmps8 [(0, .agg (eSapi_Regs.enc a0).toArray), (1, .agg (eSapi_Instr.enc a1).toArray), (2, .int .i64 a2)] (by kernel_rfl) rfl ?_
 intro a hs
 refine go_seq_k fun K1 hK1 => ?_
 refine go_region ?_
 obtain ⟨ad2, wd3, hx4, hw⟩ := x_box1 (P := Try.prog) (elem := 25) (v := (Operand.tmp 0)) (ty := 0) hs hw eSapi_Regs a0 (by kernel_rfl)
 refine go_run hs (op := (Op.box 25 (Operand.tmp 0))) (ty := 0) (dst := some 3) (g := none) (by kernel_rfl) (by kernel_rfl) (by kernel_rfl) hx4 [1, 2, 3] (L' := [(1, .agg (eSapi_Instr.enc a1).toArray), (2, .int .i64 a2), (3, .pointer (some ad2))]) (by kernel_rfl) ?_
 clear hs; intro a hs
 obtain ⟨ad6, wd7, hx8, hw⟩ := x_box1 (P := Try.prog) (elem := 27) (v := (Operand.tmp 1)) (ty := 0) hs hw eSapi_Instr a1 (by kernel_rfl)
 refine go_run hs (op := (Op.box 27 (Operand.tmp 1))) (ty := 0) (dst := some 4) (g := none) (by kernel_rfl) (by kernel_rfl) (by kernel_rfl) hx8 [2, 3, 4] (L' := [(2, .int .i64 a2), (3, .pointer (some ad2)), (4, .pointer (some ad6))]) (by kernel_rfl) ?_
 clear hs; intro a hs
 refine go_pvs 2 3 [2, 3, 4] hs (L' := [(2, .int .i64 a2), (3, .pointer (some ad2)), (4, .pointer (some ad6))]) (by kernel_rfl) ?_ rfl
 clear hs; intro a hs
 refine go_end (by kernel_rfl) ?_
 refine hK1 _ _ ?_
 refine go_seq_k fun K10 hK10 => ?_
 refine go_region ?_
 obtain ⟨t12, hx13, H⟩ := bind_some H
 refine go_call hs (op := (Op.call { callee := (Callee.value (Operand.func 10)), args := #[], argTypes := #[] })) (ty := 4) (dst := some 17) (g := none) (by kernel_rfl) (by kernel_rfl) (by kernel_rfl) (f := 10) (args := #[]) (by kernel_rfl) (rivetlaw04_shown.calls t12 _ hx13) ?_
 rintro e wd14 ⟨rfl, hw15⟩
 refine ⟨_, rfl, ?_⟩
 replace hw := hw.call hw15
 intro a hs1
 replace hs : Slots a 85 [(2, .int .i64 a2), (3, .pointer (some ad2)), (4, .pointer (some ad6)), (17, .bool t12)] := hs1.keep [2, 3, 4, 17] (by kernel_rfl)
 clear hs1
 refine go_pvs 1 2 [2, 3, 4, 7] hs (L' := [(2, .int .i64 a2), (3, .pointer (some ad2)), (4, .pointer (some ad6)), (7, .bool t12)]) (by kernel_rfl) ?_ rfl
 clear hs; intro a hs
 refine go_end (by kernel_rfl) ?_
 refine hK10 _ _ ?_
 refine go_seq_k fun K16 hK16 => ?_
 refine go_region ?_
 refine go_run hs (op := (Op.load 25 (Operand.tmp 3))) (ty := 25) (dst := some 19) (g := none) (by kernel_rfl) (by kernel_rfl) (by kernel_rfl) (x_lds (E := eSapi_Regs) (off := 0) (p := ad2) (cs := (eSapi_Regs.enc a0)) (Rd.of_own (hw.up 1)) (one_ok a0).1 (one_ok a0).2 (by kernel_rfl) (one_at _ _) (by kernel_rfl) (by kernel_rfl) (by kernel_rfl)) [2, 3, 4, 7, 19] (L' := [(2, .int .i64 a2), (3, .pointer (some ad2)), (4, .pointer (some ad6)), (7, .bool t12), (19, .agg (eSapi_Regs.enc a0).toArray)]) (by kernel_rfl) ?_
 clear hs; intro a hs
 refine go_run hs (op := (Op.load 27 (Operand.tmp 4))) (ty := 27) (dst := some 20) (g := none) (by kernel_rfl) (by kernel_rfl) (by kernel_rfl) (x_lds (E := eSapi_Instr) (off := 0) (p := ad6) (cs := (eSapi_Instr.enc a1)) (Rd.of_own (hw.up 0)) (one_ok a1).1 (one_ok a1).2 (by kernel_rfl) (one_at _ _) (by kernel_rfl) (by kernel_rfl) (by kernel_rfl)) [2, 3, 4, 7, 19, 20] (L' := [(2, .int .i64 a2), (3, .pointer (some ad2)), (4, .pointer (some ad6)), (7, .bool t12), (19, .agg (eSapi_Regs.enc a0).toArray), (20, .agg (eSapi_Instr.enc a1).toArray)]) (by kernel_rfl) ?_
 clear hs; intro a hs
 obtain ⟨⟨t18, t19⟩, hx20, H⟩ := bind_some H
 refine go_call hs (op := (Op.call { callee := (Callee.value (Operand.func 12)), args := #[(Operand.tmp 19), (Operand.tmp 20)], argTypes := #[25, 27] })) (ty := 30) (dst := some 21) (g := none) (by kernel_rfl) (by kernel_rfl) (by kernel_rfl) (f := 12) (args := #[.agg (eSapi_Regs.enc a0).toArray, .agg (eSapi_Instr.enc a1).toArray]) (by kernel_rfl) (alu_Do.calls a0 a1 (t18, t19) _ hx20) ?_
 rintro e wd21 ⟨rfl, hw22⟩
 refine ⟨_, rfl, ?_⟩
 replace hw := hw.call hw22
 intro a hs1
 replace hs : Slots a 85 [(2, .int .i64 a2), (3, .pointer (some ad2)), (4, .pointer (some ad6)), (7, .bool t12), (21, .tuple #[.agg (eSapi_Regs.enc t18).toArray, .int .i64 t19])] := hs1.keep [2, 3, 4, 7, 21] (by kernel_rfl)
 clear hs1
 refine go_pvs 3 6 [2, 3, 4, 7, 22, 23] hs (L' := [(2, .int .i64 a2), (3, .pointer (some ad2)), (4, .pointer (some ad6)), (7, .bool t12), (22, .agg (eSapi_Regs.enc t18).toArray), (23, .int .i64 t19)]) (by kernel_rfl) ?_ rfl
 clear hs; intro a hs
 obtain ⟨ad23, wd24, hx25, hw⟩ := x_alloc1 (P := Try.prog) (elem := 25) (ty := 0) (z := .agg (eSapi_Regs.enc (⟨(Vector.replicate 16 0), 0, false, false, false, false⟩ : Sapi_Regs)).toArray) hs hw eSapi_Regs (⟨(Vector.replicate 16 0), 0, false, false, false, false⟩ : Sapi_Regs) (by kernel_rfl) (by kernel_rfl)
 refine go_run hs (op := (Op.alloc 25)) (ty := 0) (dst := some 8) (g := none) (by kernel_rfl) (by kernel_rfl) (by kernel_rfl) hx25 [2, 3, 4, 7, 8, 22, 23] (L' := [(2, .int .i64 a2), (3, .pointer (some ad2)), (4, .pointer (some ad6)), (7, .bool t12), (8, .pointer (some ad23)), (22, .agg (eSapi_Regs.enc t18).toArray), (23, .int .i64 t19)]) (by kernel_rfl) ?_
 clear hs; intro a hs
 obtain ⟨wd27, hx28, hw⟩ := x_put (P := Try.prog) (ty := 0) (t := 25) (x := (Operand.tmp 8)) (y := (Operand.tmp 22)) (off := 0) (p := ad23) (v := .agg (eSapi_Regs.enc t18).toArray) (vs := (eSapi_Regs.enc t18)) (i := 0) (e' := ((t18 : Sapi_Regs) : Sapi_Regs)) hs hw rfl (one_ok (⟨(Vector.replicate 16 0), 0, false, false, false, false⟩ : Sapi_Regs)).1 (one_ok (⟨(Vector.replicate 16 0), 0, false, false, false, false⟩ : Sapi_Regs)).2 (by kernel_rfl) (one_at _ _) (by kernel_rfl) rfl (by kernel_rfl) (Nat.le_of_ble_eq_true rfl) (eSapi_Regs.one _) (by kernel_rfl)
 refine go_unit hs (op := (Op.store 25 (Operand.tmp 8) (Operand.tmp 22))) (ty := 0) (dst := none) (g := none) (by kernel_rfl) (by kernel_rfl) (by kernel_rfl) hx28 [2, 3, 4, 7, 8, 23] (L' := [(2, .int .i64 a2), (3, .pointer (some ad2)), (4, .pointer (some ad6)), (7, .bool t12), (8, .pointer (some ad23)), (23, .int .i64 t19)]) (by kernel_rfl) ?_
 clear hs; intro a hs
 replace hw : St [] w0 wd27 [own 25 eSapi_Regs (some ad23) 1 [(t18 : Sapi_Regs)], own 27 eSapi_Instr (some ad6) 1 [a1], own 25 eSapi_Regs (some ad2) 1 [a0]] := hw
 refine go_pvs 8 9 [2, 3, 4, 7, 8, 9] hs (L' := [(2, .int .i64 a2), (3, .pointer (some ad2)), (4, .pointer (some ad6)), (7, .bool t12), (8, .pointer (some ad23)), (9, .int .i64 t19)]) (by kernel_rfl) ?_ rfl
 clear hs; intro a hs
 refine go_end (by kernel_rfl) ?_
 refine hK16 _ _ ?_
 refine go_seq_k fun K29 hK29 => ?_
 refine go_region ?_
 refine go_run hs (op := (Op.load 25 (Operand.tmp 3))) (ty := 25) (dst := some 25) (g := none) (by kernel_rfl) (by kernel_rfl) (by kernel_rfl) (x_lds (E := eSapi_Regs) (off := 0) (p := ad2) (cs := (eSapi_Regs.enc a0)) (Rd.of_own (hw.up 2)) (one_ok a0).1 (one_ok a0).2 (by kernel_rfl) (one_at _ _) (by kernel_rfl) (by kernel_rfl) (by kernel_rfl)) [2, 3, 4, 7, 8, 9, 25] (L' := [(2, .int .i64 a2), (3, .pointer (some ad2)), (4, .pointer (some ad6)), (7, .bool t12), (8, .pointer (some ad23)), (9, .int .i64 t19), (25, .agg (eSapi_Regs.enc a0).toArray)]) (by kernel_rfl) ?_
 clear hs; intro a hs
 refine go_run hs (op := (Op.load 27 (Operand.tmp 4))) (ty := 27) (dst := some 26) (g := none) (by kernel_rfl) (by kernel_rfl) (by kernel_rfl) (x_lds (E := eSapi_Instr) (off := 0) (p := ad6) (cs := (eSapi_Instr.enc a1)) (Rd.of_own (hw.up 1)) (one_ok a1).1 (one_ok a1).2 (by kernel_rfl) (one_at _ _) (by kernel_rfl) (by kernel_rfl) (by kernel_rfl)) [2, 3, 4, 7, 8, 9, 25, 26] (L' := [(2, .int .i64 a2), (3, .pointer (some ad2)), (4, .pointer (some ad6)), (7, .bool t12), (8, .pointer (some ad23)), (9, .int .i64 t19), (25, .agg (eSapi_Regs.enc a0).toArray), (26, .agg (eSapi_Instr.enc a1).toArray)]) (by kernel_rfl) ?_
 clear hs; intro a hs
 obtain ⟨⟨t31, t32⟩, hx33, H⟩ := bind_some H
 refine go_call hs (op := (Op.call { callee := (Callee.value (Operand.func 14)), args := #[(Operand.tmp 25), (Operand.tmp 26)], argTypes := #[25, 27] })) (ty := 30) (dst := some 27) (g := none) (by kernel_rfl) (by kernel_rfl) (by kernel_rfl) (f := 14) (args := #[.agg (eSapi_Regs.enc a0).toArray, .agg (eSapi_Instr.enc a1).toArray]) (by kernel_rfl) (rivetref04_Do.calls a0 a1 (t31, t32) _ hx33) ?_
 rintro e wd34 ⟨rfl, hw35⟩
 refine ⟨_, rfl, ?_⟩
 replace hw := hw.call hw35
 intro a hs1
 replace hs : Slots a 85 [(2, .int .i64 a2), (3, .pointer (some ad2)), (4, .pointer (some ad6)), (7, .bool t12), (8, .pointer (some ad23)), (9, .int .i64 t19), (27, .tuple #[.agg (eSapi_Regs.enc t31).toArray, .int .i64 t32])] := hs1.keep [2, 3, 4, 7, 8, 9, 27] (by kernel_rfl)
 clear hs1
 refine go_pvs 3 6 [2, 3, 4, 7, 8, 9, 28, 29] hs (L' := [(2, .int .i64 a2), (3, .pointer (some ad2)), (4, .pointer (some ad6)), (7, .bool t12), (8, .pointer (some ad23)), (9, .int .i64 t19), (28, .agg (eSapi_Regs.enc t31).toArray), (29, .int .i64 t32)]) (by kernel_rfl) ?_ rfl
 clear hs; intro a hs
 obtain ⟨ad36, wd37, hx38, hw⟩ := x_alloc1 (P := Try.prog) (elem := 25) (ty := 0) (z := .agg (eSapi_Regs.enc (⟨(Vector.replicate 16 0), 0, false, false, false, false⟩ : Sapi_Regs)).toArray) hs hw eSapi_Regs (⟨(Vector.replicate 16 0), 0, false, false, false, false⟩ : Sapi_Regs) (by kernel_rfl) (by kernel_rfl)
 refine go_run hs (op := (Op.alloc 25)) (ty := 0) (dst := some 10) (g := none) (by kernel_rfl) (by kernel_rfl) (by kernel_rfl) hx38 [2, 3, 4, 7, 8, 9, 10, 28, 29] (L' := [(2, .int .i64 a2), (3, .pointer (some ad2)), (4, .pointer (some ad6)), (7, .bool t12), (8, .pointer (some ad23)), (9, .int .i64 t19), (10, .pointer (some ad36)), (28, .agg (eSapi_Regs.enc t31).toArray), (29, .int .i64 t32)]) (by kernel_rfl) ?_
 clear hs; intro a hs
 obtain ⟨wd40, hx41, hw⟩ := x_put (P := Try.prog) (ty := 0) (t := 25) (x := (Operand.tmp 10)) (y := (Operand.tmp 28)) (off := 0) (p := ad36) (v := .agg (eSapi_Regs.enc t31).toArray) (vs := (eSapi_Regs.enc t31)) (i := 0) (e' := ((t31 : Sapi_Regs) : Sapi_Regs)) hs hw rfl (one_ok (⟨(Vector.replicate 16 0), 0, false, false, false, false⟩ : Sapi_Regs)).1 (one_ok (⟨(Vector.replicate 16 0), 0, false, false, false, false⟩ : Sapi_Regs)).2 (by kernel_rfl) (one_at _ _) (by kernel_rfl) rfl (by kernel_rfl) (Nat.le_of_ble_eq_true rfl) (eSapi_Regs.one _) (by kernel_rfl)
 refine go_unit hs (op := (Op.store 25 (Operand.tmp 10) (Operand.tmp 28))) (ty := 0) (dst := none) (g := none) (by kernel_rfl) (by kernel_rfl) (by kernel_rfl) hx41 [2, 3, 4, 7, 8, 9, 10, 29] (L' := [(2, .int .i64 a2), (3, .pointer (some ad2)), (4, .pointer (some ad6)), (7, .bool t12), (8, .pointer (some ad23)), (9, .int .i64 t19), (10, .pointer (some ad36)), (29, .int .i64 t32)]) (by kernel_rfl) ?_
 clear hs; intro a hs
 replace hw : St [] w0 wd40 [own 25 eSapi_Regs (some ad36) 1 [(t31 : Sapi_Regs)], own 25 eSapi_Regs (some ad23) 1 [(t18 : Sapi_Regs)], own 27 eSapi_Instr (some ad6) 1 [a1], own 25 eSapi_Regs (some ad2) 1 [a0]] := hw
 refine go_pvs 8 9 [2, 3, 4, 7, 8, 9, 10, 11] hs (L' := [(2, .int .i64 a2), (3, .pointer (some ad2)), (4, .pointer (some ad6)), (7, .bool t12), (8, .pointer (some ad23)), (9, .int .i64 t19), (10, .pointer (some ad36)), (11, .int .i64 t32)]) (by kernel_rfl) ?_ rfl
 clear hs; intro a hs
 refine go_end (by kernel_rfl) ?_
 refine hK29 _ _ ?_
 refine go_seq_k fun K42 hK42 => ?_
 refine u_region (n := 85) [0, 1, 2, 3, 4, 5, 6, 9] [(7, 8, 12, (Operand.tmp 35))] (by kernel_rfl) (by kernel_rfl) hs hw ?_
 refine u_run hs (op := (Op.load 25 (Operand.tmp 3))) (ty := 25) (dst := some 31) (g := none) (by kernel_rfl) (by kernel_rfl) (by kernel_rfl) (fun wx hbx => (x_lds (E := eSapi_Regs) (off := 0) (p := ad2) (cs := (eSapi_Regs.enc a0)) ((Rd.of_own (hw.up 3)).below hbx) (one_ok a0).1 (one_ok a0).2 (by kernel_rfl) (one_at _ _) (by kernel_rfl) (by kernel_rfl) (by kernel_rfl))) [2, 3, 4, 7, 8, 9, 10, 11, 31] (L' := [(2, .int .i64 a2), (3, .pointer (some ad2)), (4, .pointer (some ad6)), (7, .bool t12), (8, .pointer (some ad23)), (9, .int .i64 t19), (10, .pointer (some ad36)), (11, .int .i64 t32), (31, .agg (eSapi_Regs.enc a0).toArray)]) (by kernel_rfl) ?_
 clear hs; intro a hs
 refine u_run hs (op := (Op.load 27 (Operand.tmp 4))) (ty := 27) (dst := some 32) (g := none) (by kernel_rfl) (by kernel_rfl) (by kernel_rfl) (fun wx hbx => (x_lds (E := eSapi_Instr) (off := 0) (p := ad6) (cs := (eSapi_Instr.enc a1)) ((Rd.of_own (hw.up 2)).below hbx) (one_ok a1).1 (one_ok a1).2 (by kernel_rfl) (one_at _ _) (by kernel_rfl) (by kernel_rfl) (by kernel_rfl))) [2, 3, 4, 7, 8, 9, 10, 11, 31, 32] (L' := [(2, .int .i64 a2), (3, .pointer (some ad2)), (4, .pointer (some ad6)), (7, .bool t12), (8, .pointer (some ad23)), (9, .int .i64 t19), (10, .pointer (some ad36)), (11, .int .i64 t32), (31, .agg (eSapi_Regs.enc a0).toArray), (32, .agg (eSapi_Instr.enc a1).toArray)]) (by kernel_rfl) ?_
 clear hs; intro a hs
 obtain ⟨t44, hx45, H⟩ := bind_some H
 refine u_call hs (op := (Op.call { callee := (Callee.value (Operand.func 11)), args := #[(Operand.tmp 32)], argTypes := #[27] })) (ty := 27) (dst := some 33) (g := none) (by kernel_rfl) (by kernel_rfl) (by kernel_rfl) (f := 11) (args := #[.agg (eSapi_Instr.enc a1).toArray]) (v := .agg (eSapi_Instr.enc t44).toArray) (by kernel_rfl) (fun wx hbx => (rivetref03_Fit.calls a1 t44 _ hx45).mono ?_) [2, 3, 4, 7, 8, 9, 10, 11, 31, 33] (L' := [(2, .int .i64 a2), (3, .pointer (some ad2)), (4, .pointer (some ad6)), (7, .bool t12), (8, .pointer (some ad23)), (9, .int .i64 t19), (10, .pointer (some ad36)), (11, .int .i64 t32), (31, .agg (eSapi_Regs.enc a0).toArray), (33, .agg (eSapi_Instr.enc t44).toArray)]) (by kernel_rfl) ?_
 · rintro e wy ⟨rfl, hwy⟩
   exact ⟨rfl, hwy.below⟩
 clear hs; intro a hs
 obtain ⟨⟨t47, t48⟩, hx49, H⟩ := bind_some H
 refine u_call hs (op := (Op.call { callee := (Callee.value (Operand.func 12)), args := #[(Operand.tmp 31), (Operand.tmp 33)], argTypes := #[25, 27] })) (ty := 30) (dst := some 34) (g := none) (by kernel_rfl) (by kernel_rfl) (by kernel_rfl) (f := 12) (args := #[.agg (eSapi_Regs.enc a0).toArray, .agg (eSapi_Instr.enc t44).toArray]) (v := .tuple #[.agg (eSapi_Regs.enc t47).toArray, .int .i64 t48]) (by kernel_rfl) (fun wx hbx => (alu_Do.calls a0 t44 (t47, t48) _ hx49).mono ?_) [2, 3, 4, 7, 8, 9, 10, 11, 34] (L' := [(2, .int .i64 a2), (3, .pointer (some ad2)), (4, .pointer (some ad6)), (7, .bool t12), (8, .pointer (some ad23)), (9, .int .i64 t19), (10, .pointer (some ad36)), (11, .int .i64 t32), (34, .tuple #[.agg (eSapi_Regs.enc t47).toArray, .int .i64 t48])]) (by kernel_rfl) ?_
 · rintro e wy ⟨rfl, hwy⟩
   exact ⟨rfl, hwy.below⟩
 clear hs; intro a hs
 refine u_pvs [4, 5, 6, 9] [] [2, 3, 4, 7, 8, 9, 10, 11, 13, 35] hs (L' := [(2, .int .i64 a2), (3, .pointer (some ad2)), (4, .pointer (some ad6)), (7, .bool t12), (8, .pointer (some ad23)), (9, .int .i64 t19), (10, .pointer (some ad36)), (11, .int .i64 t32), (13, .int .i64 t48), (35, .agg (eSapi_Regs.enc t47).toArray)]) (by kernel_rfl) ?_ (by kernel_rfl)
 clear hs; intro a hs
 refine u_end ?_
 refine ⟨[(2, .int .i64 a2), (3, .pointer (some ad2)), (4, .pointer (some ad6)), (7, .bool t12), (8, .pointer (some ad23)), (9, .int .i64 t19), (10, .pointer (some ad36)), (11, .int .i64 t32), (13, .int .i64 t48), (35, .agg (eSapi_Regs.enc t47).toArray)], [{ α := Sapi_Regs, E := eSapi_Regs, i := 7, s := 8, d := 12, T := 25, ty := 0, ty2 := 0, z := .agg (eSapi_Regs.enc (⟨(Vector.replicate 16 0), 0, false, false, false, false⟩ : Sapi_Regs)).toArray, x0 := (⟨(Vector.replicate 16 0), 0, false, false, false, false⟩ : Sapi_Regs), y := (Operand.tmp 35), x := t47 : AJ }], rfl, hs.keep [2, 3, 4, 7, 8, 9, 10, 11, 13, 35] (by kernel_rfl), by intro j hj; simp only [List.mem_cons, List.not_mem_nil, or_false] at hj; rcases hj with rfl <;> exact ⟨by kernel_rfl, by kernel_rfl, by kernel_rfl, by kernel_rfl, by kernel_rfl, by kernel_rfl, by kernel_rfl, by kernel_rfl, by kernel_rfl⟩, ?_⟩
 intro ad50 a wq hs hwq
 clear hw; have hw := hwq; clear hwq
 replace hw : St [] w0 wq [own 25 eSapi_Regs (some ad50) 1 [t47], own 25 eSapi_Regs (some ad36) 1 [(t31 : Sapi_Regs)], own 25 eSapi_Regs (some ad23) 1 [(t18 : Sapi_Regs)], own 27 eSapi_Instr (some ad6) 1 [a1], own 25 eSapi_Regs (some ad2) 1 [a0]] := hw
 replace hs : Slots a 85 [(2, .int .i64 a2), (3, .pointer (some ad2)), (4, .pointer (some ad6)), (7, .bool t12), (8, .pointer (some ad23)), (9, .int .i64 t19), (10, .pointer (some ad36)), (11, .int .i64 t32), (12, .pointer (some ad50)), (13, .int .i64 t48)] := hs.keep [2, 3, 4, 7, 8, 9, 10, 11, 12, 13] (by kernel_rfl)
 refine hK42 _ _ ?_
 refine go_seq_k fun K52 hK52 => ?_
 refine u_region (n := 85) [0, 1, 2, 3, 4, 5, 6, 9] [(7, 8, 14, (Operand.tmp 42))] (by kernel_rfl) (by kernel_rfl) hs hw ?_
 refine u_run hs (op := (Op.load 25 (Operand.tmp 3))) (ty := 25) (dst := some 38) (g := none) (by kernel_rfl) (by kernel_rfl) (by kernel_rfl) (fun wx hbx => (x_lds (E := eSapi_Regs) (off := 0) (p := ad2) (cs := (eSapi_Regs.enc a0)) ((Rd.of_own (hw.up 4)).below hbx) (one_ok a0).1 (one_ok a0).2 (by kernel_rfl) (one_at _ _) (by kernel_rfl) (by kernel_rfl) (by kernel_rfl))) [2, 3, 4, 7, 8, 9, 10, 11, 12, 13, 38] (L' := [(2, .int .i64 a2), (3, .pointer (some ad2)), (4, .pointer (some ad6)), (7, .bool t12), (8, .pointer (some ad23)), (9, .int .i64 t19), (10, .pointer (some ad36)), (11, .int .i64 t32), (12, .pointer (some ad50)), (13, .int .i64 t48), (38, .agg (eSapi_Regs.enc a0).toArray)]) (by kernel_rfl) ?_
 clear hs; intro a hs
 refine u_run hs (op := (Op.load 27 (Operand.tmp 4))) (ty := 27) (dst := some 39) (g := none) (by kernel_rfl) (by kernel_rfl) (by kernel_rfl) (fun wx hbx => (x_lds (E := eSapi_Instr) (off := 0) (p := ad6) (cs := (eSapi_Instr.enc a1)) ((Rd.of_own (hw.up 3)).below hbx) (one_ok a1).1 (one_ok a1).2 (by kernel_rfl) (one_at _ _) (by kernel_rfl) (by kernel_rfl) (by kernel_rfl))) [2, 3, 7, 8, 9, 10, 11, 12, 13, 38, 39] (L' := [(2, .int .i64 a2), (3, .pointer (some ad2)), (7, .bool t12), (8, .pointer (some ad23)), (9, .int .i64 t19), (10, .pointer (some ad36)), (11, .int .i64 t32), (12, .pointer (some ad50)), (13, .int .i64 t48), (38, .agg (eSapi_Regs.enc a0).toArray), (39, .agg (eSapi_Instr.enc a1).toArray)]) (by kernel_rfl) ?_
 clear hs; intro a hs
 obtain ⟨t54, hx55, H⟩ := bind_some H
 refine u_call hs (op := (Op.call { callee := (Callee.value (Operand.func 11)), args := #[(Operand.tmp 39)], argTypes := #[27] })) (ty := 27) (dst := some 40) (g := none) (by kernel_rfl) (by kernel_rfl) (by kernel_rfl) (f := 11) (args := #[.agg (eSapi_Instr.enc a1).toArray]) (v := .agg (eSapi_Instr.enc t54).toArray) (by kernel_rfl) (fun wx hbx => (rivetref03_Fit.calls a1 t54 _ hx55).mono ?_) [2, 3, 7, 8, 9, 10, 11, 12, 13, 38, 40] (L' := [(2, .int .i64 a2), (3, .pointer (some ad2)), (7, .bool t12), (8, .pointer (some ad23)), (9, .int .i64 t19), (10, .pointer (some ad36)), (11, .int .i64 t32), (12, .pointer (some ad50)), (13, .int .i64 t48), (38, .agg (eSapi_Regs.enc a0).toArray), (40, .agg (eSapi_Instr.enc t54).toArray)]) (by kernel_rfl) ?_
 · rintro e wy ⟨rfl, hwy⟩
   exact ⟨rfl, hwy.below⟩
 clear hs; intro a hs
 obtain ⟨⟨t57, t58⟩, hx59, H⟩ := bind_some H
 refine u_call hs (op := (Op.call { callee := (Callee.value (Operand.func 14)), args := #[(Operand.tmp 38), (Operand.tmp 40)], argTypes := #[25, 27] })) (ty := 30) (dst := some 41) (g := none) (by kernel_rfl) (by kernel_rfl) (by kernel_rfl) (f := 14) (args := #[.agg (eSapi_Regs.enc a0).toArray, .agg (eSapi_Instr.enc t54).toArray]) (v := .tuple #[.agg (eSapi_Regs.enc t57).toArray, .int .i64 t58]) (by kernel_rfl) (fun wx hbx => (rivetref04_Do.calls a0 t54 (t57, t58) _ hx59).mono ?_) [2, 3, 7, 8, 9, 10, 11, 12, 13, 41] (L' := [(2, .int .i64 a2), (3, .pointer (some ad2)), (7, .bool t12), (8, .pointer (some ad23)), (9, .int .i64 t19), (10, .pointer (some ad36)), (11, .int .i64 t32), (12, .pointer (some ad50)), (13, .int .i64 t48), (41, .tuple #[.agg (eSapi_Regs.enc t57).toArray, .int .i64 t58])]) (by kernel_rfl) ?_
 · rintro e wy ⟨rfl, hwy⟩
   exact ⟨rfl, hwy.below⟩
 clear hs; intro a hs
 refine u_pvs [4, 5, 6, 9] [] [2, 3, 7, 8, 9, 10, 11, 12, 13, 15, 42] hs (L' := [(2, .int .i64 a2), (3, .pointer (some ad2)), (7, .bool t12), (8, .pointer (some ad23)), (9, .int .i64 t19), (10, .pointer (some ad36)), (11, .int .i64 t32), (12, .pointer (some ad50)), (13, .int .i64 t48), (15, .int .i64 t58), (42, .agg (eSapi_Regs.enc t57).toArray)]) (by kernel_rfl) ?_ (by kernel_rfl)
 clear hs; intro a hs
 refine u_end ?_
 refine ⟨[(2, .int .i64 a2), (3, .pointer (some ad2)), (7, .bool t12), (8, .pointer (some ad23)), (9, .int .i64 t19), (10, .pointer (some ad36)), (11, .int .i64 t32), (12, .pointer (some ad50)), (13, .int .i64 t48), (15, .int .i64 t58), (42, .agg (eSapi_Regs.enc t57).toArray)], [{ α := Sapi_Regs, E := eSapi_Regs, i := 7, s := 8, d := 14, T := 25, ty := 0, ty2 := 0, z := .agg (eSapi_Regs.enc (⟨(Vector.replicate 16 0), 0, false, false, false, false⟩ : Sapi_Regs)).toArray, x0 := (⟨(Vector.replicate 16 0), 0, false, false, false, false⟩ : Sapi_Regs), y := (Operand.tmp 42), x := t57 : AJ }], rfl, hs.keep [2, 3, 7, 8, 9, 10, 11, 12, 13, 15, 42] (by kernel_rfl), by intro j hj; simp only [List.mem_cons, List.not_mem_nil, or_false] at hj; rcases hj with rfl <;> exact ⟨by kernel_rfl, by kernel_rfl, by kernel_rfl, by kernel_rfl, by kernel_rfl, by kernel_rfl, by kernel_rfl, by kernel_rfl, by kernel_rfl⟩, ?_⟩
 intro ad60 a wq hs hwq
 clear hw; have hw := hwq; clear hwq
 replace hw : St [] w0 wq [own 25 eSapi_Regs (some ad60) 1 [t57], own 25 eSapi_Regs (some ad50) 1 [t47], own 25 eSapi_Regs (some ad36) 1 [(t31 : Sapi_Regs)], own 25 eSapi_Regs (some ad23) 1 [(t18 : Sapi_Regs)], own 27 eSapi_Instr (some ad6) 1 [a1], own 25 eSapi_Regs (some ad2) 1 [a0]] := hw
 replace hs : Slots a 85 [(2, .int .i64 a2), (3, .pointer (some ad2)), (7, .bool t12), (8, .pointer (some ad23)), (9, .int .i64 t19), (10, .pointer (some ad36)), (11, .int .i64 t32), (12, .pointer (some ad50)), (13, .int .i64 t48), (14, .pointer (some ad60)), (15, .int .i64 t58)] := hs.keep [2, 3, 7, 8, 9, 10, 11, 12, 13, 14, 15] (by kernel_rfl)
 refine hK52 _ _ ?_
 refine go_seq_k fun K62 hK62 => ?_
 refine go_seq_k fun K63 hK63 => ?_
 refine go_region ?_
 refine go_pvs 0 1 [2, 3, 7, 8, 9, 10, 11, 12, 13, 14, 15, 16] hs (L' := [(2, .int .i64 a2), (3, .pointer (some ad2)), (7, .bool t12), (8, .pointer (some ad23)), (9, .int .i64 t19), (10, .pointer (some ad36)), (11, .int .i64 t32), (12, .pointer (some ad50)), (13, .int .i64 t48), (14, .pointer (some ad60)), (15, .int .i64 t58), (16, .int .i64 (-1))]) (by kernel_rfl) ?_ rfl
 clear hs; intro a hs
 refine go_end (by kernel_rfl) ?_
 refine hK63 _ _ ?_
 refine wp_block ?_
 obtain ⟨e64, hl64, HX64⟩ := bind_some H
 have hJ1 : ∀ (a : Act) (w : World), Slots a 85 [(2, .int .i64 a2), (3, .pointer (some ad2)), (7, .bool t12), (8, .pointer (some ad23)), (9, .int .i64 t19), (10, .pointer (some ad36)), (11, .int .i64 t32), (12, .pointer (some ad50)), (13, .int .i64 t48), (14, .pointer (some ad60)), (15, .int .i64 t58)] → St [] w0 w [own 25 eSapi_Regs (some ad60) 1 [t57], own 25 eSapi_Regs (some ad50) 1 [t47], own 25 eSapi_Regs (some ad36) 1 [(t31 : Sapi_Regs)], own 25 eSapi_Regs (some ad23) 1 [(t18 : Sapi_Regs)], own 27 eSapi_Instr (some ad6) 1 [a1], own 25 eSapi_Regs (some ad2) 1 [a0]] → rivetlaw04_AluAll.j1 t12 t18 t31 t19 t32 t47 t57 t48 t58 a0 a2 = some r → K62 a w := by
  intro a w hs hw H
  unfold rivetlaw04_AluAll.j1 at H
  refine hK62 _ _ ?_
  refine go_seq_k fun K81 hK81 => ?_
  have hJ2 : ∀ (v93 : Bool) (a : Act) (w : World), Slots a 85 [(6, .bool v93)] → St [] w0 w [own 25 eSapi_Regs (some ad60) 1 [t57], own 25 eSapi_Regs (some ad50) 1 [t47], own 25 eSapi_Regs (some ad36) 1 [(t31 : Sapi_Regs)], own 25 eSapi_Regs (some ad23) 1 [(t18 : Sapi_Regs)], own 27 eSapi_Instr (some ad6) 1 [a1], own 25 eSapi_Regs (some ad2) 1 [a0]] → rivetlaw04_AluAll.j2 v93 = some r → K81 a w := by
   intro v93 a w hs hw H
   unfold rivetlaw04_AluAll.j2 at H
   refine hK81 _ _ ?_
   refine wp_ret ?_
   obtain rfl := Option.some.inj H
   refine ret1 (t := 6) (v := .bool v93) hs (by kernel_rfl) (by kernel_rfl) ?_
   exact ⟨rfl, hw.only 0⟩
  refine q2_region (by kernel_rfl) (by kernel_rfl) ?_
  refine q_pvs 0 2 [2, 3, 8, 9, 10, 11, 12, 13, 14, 15, 56] hs (L' := [(2, .int .i64 a2), (3, .pointer (some ad2)), (8, .pointer (some ad23)), (9, .int .i64 t19), (10, .pointer (some ad36)), (11, .int .i64 t32), (12, .pointer (some ad50)), (13, .int .i64 t48), (14, .pointer (some ad60)), (15, .int .i64 t58), (56, .bool t12)]) (by kernel_rfl) ?_ rfl
  clear hs; intro a hs
  cases hb82 : t12
  ·replace H := ite_f H (ff hb82)
   rw [hb82] at hs
   refine q_pvs 2 31 [6] hs (L' := [(6, .bool false)]) (by kernel_rfl) ?_ rfl
   clear hs; intro a hs
   refine q_end (by kernel_rfl) ?_
   intro wq hbq
   replace hw := hw.behind hbq
   replace hw := hw.up 5
   replace hw := hw.up 5
   replace hw := hw.up 5
   replace hw := hw.up 5
   replace hw := hw.up 5
   replace hw := hw.up 5
   replace hw := hw.only 6
   exact hJ2 false _ _ (hs.keep [6] (by kernel_rfl)) hw H
  ·replace H := ite_t H hb82
   rw [hb82] at hs
   refine q_run hs (op := (Op.load 25 (Operand.tmp 8))) (ty := 25) (dst := some 57) (g := some (1, true)) (by kernel_rfl) (by kernel_rfl) (by kernel_rfl) (fun wx hbx => (x_lds (E := eSapi_Regs) (off := 0) (p := ad23) (cs := (eSapi_Regs.enc (t18 : Sapi_Regs))) ((Rd.of_own (hw.up 3)).below hbx) (one_ok (t18 : Sapi_Regs)).1 (one_ok (t18 : Sapi_Regs)).2 (by kernel_rfl) (one_at _ _) (by kernel_rfl) (by kernel_rfl) (by kernel_rfl))) [2, 3, 9, 10, 11, 12, 13, 14, 15, 56, 57] (L' := [(2, .int .i64 a2), (3, .pointer (some ad2)), (9, .int .i64 t19), (10, .pointer (some ad36)), (11, .int .i64 t32), (12, .pointer (some ad50)), (13, .int .i64 t48), (14, .pointer (some ad60)), (15, .int .i64 t58), (56, .bool true), (57, .agg (eSapi_Regs.enc (t18 : Sapi_Regs)).toArray)]) (by kernel_rfl) ?_
   clear hs; intro a hs
   refine q_run hs (op := (Op.load 25 (Operand.tmp 10))) (ty := 25) (dst := some 58) (g := some (1, true)) (by kernel_rfl) (by kernel_rfl) (by kernel_rfl) (fun wx hbx => (x_lds (E := eSapi_Regs) (off := 0) (p := ad36) (cs := (eSapi_Regs.enc (t31 : Sapi_Regs))) ((Rd.of_own (hw.up 2)).below hbx) (one_ok (t31 : Sapi_Regs)).1 (one_ok (t31 : Sapi_Regs)).2 (by kernel_rfl) (one_at _ _) (by kernel_rfl) (by kernel_rfl) (by kernel_rfl))) [2, 3, 9, 11, 12, 13, 14, 15, 56, 57, 58] (L' := [(2, .int .i64 a2), (3, .pointer (some ad2)), (9, .int .i64 t19), (11, .int .i64 t32), (12, .pointer (some ad50)), (13, .int .i64 t48), (14, .pointer (some ad60)), (15, .int .i64 t58), (56, .bool true), (57, .agg (eSapi_Regs.enc (t18 : Sapi_Regs)).toArray), (58, .agg (eSapi_Regs.enc (t31 : Sapi_Regs)).toArray)]) (by kernel_rfl) ?_
   clear hs; intro a hs
   refine q_run hs (op := (Op.binOp BinOp.eql 25 (Operand.tmp 57) (Operand.tmp 58) 25)) (ty := 4) (dst := some 59) (g := some (1, true)) (by kernel_rfl) (by kernel_rfl) (by kernel_rfl) (fun wx hbx => (x_eql (xs := (eSapi_Regs.enc (t18 : Sapi_Regs)).toArray) (ys := (eSapi_Regs.enc (t31 : Sapi_Regs)).toArray) (r := ((decide (((t18 : Sapi_Regs).R) = ((t31 : Sapi_Regs).R))) && ((((t18 : Sapi_Regs).H) == ((t31 : Sapi_Regs).H)) && ((((t18 : Sapi_Regs).N) == ((t31 : Sapi_Regs).N)) && ((((t18 : Sapi_Regs).Z) == ((t31 : Sapi_Regs).Z)) && ((((t18 : Sapi_Regs).C) == ((t31 : Sapi_Regs).C)) && ((((t18 : Sapi_Regs).V) == ((t31 : Sapi_Regs).V)) && true))))))) (by kernel_rfl) (by kernel_rfl) (by kernel_rfl) (eq_struct Try.underlying25 (by kernel_rfl) (eq_cons (a := .agg (eA23.enc ((t18 : Sapi_Regs).R)).toArray) (b := .agg (eA23.enc ((t31 : Sapi_Regs).R)).toArray) (r := (decide (((t18 : Sapi_Regs).R) = ((t31 : Sapi_Regs).R)))) (s := ((((t18 : Sapi_Regs).H) == ((t31 : Sapi_Regs).H)) && ((((t18 : Sapi_Regs).N) == ((t31 : Sapi_Regs).N)) && ((((t18 : Sapi_Regs).Z) == ((t31 : Sapi_Regs).Z)) && ((((t18 : Sapi_Regs).C) == ((t31 : Sapi_Regs).C)) && ((((t18 : Sapi_Regs).V) == ((t31 : Sapi_Regs).V)) && true)))))) (by kernel_rfl) (part_pv (by kernel_rfl)) (part_pv (by kernel_rfl)) (eq_vec (e := 22) (k' := .u32) (k := .u32) ((t18 : Sapi_Regs).R) ((t31 : Sapi_Regs).R) (by kernel_rfl) (by kernel_rfl) (by kernel_rfl) (by kernel_rfl) (by kernel_rfl)) (eq_cons (a := .int .u32 ((t18 : Sapi_Regs).H)) (b := .int .u32 ((t31 : Sapi_Regs).H)) (r := (((t18 : Sapi_Regs).H) == ((t31 : Sapi_Regs).H))) (s := ((((t18 : Sapi_Regs).N) == ((t31 : Sapi_Regs).N)) && ((((t18 : Sapi_Regs).Z) == ((t31 : Sapi_Regs).Z)) && ((((t18 : Sapi_Regs).C) == ((t31 : Sapi_Regs).C)) && ((((t18 : Sapi_Regs).V) == ((t31 : Sapi_Regs).V)) && true))))) (by kernel_rfl) (part_pv (by kernel_rfl)) (part_pv (by kernel_rfl)) (eq_pv (by kernel_rfl)) (eq_cons (a := .bool ((t18 : Sapi_Regs).N)) (b := .bool ((t31 : Sapi_Regs).N)) (r := (((t18 : Sapi_Regs).N) == ((t31 : Sapi_Regs).N))) (s := ((((t18 : Sapi_Regs).Z) == ((t31 : Sapi_Regs).Z)) && ((((t18 : Sapi_Regs).C) == ((t31 : Sapi_Regs).C)) && ((((t18 : Sapi_Regs).V) == ((t31 : Sapi_Regs).V)) && true)))) (by kernel_rfl) (part_pv (by kernel_rfl)) (part_pv (by kernel_rfl)) (eq_pv (by kernel_rfl)) (eq_cons (a := .bool ((t18 : Sapi_Regs).Z)) (b := .bool ((t31 : Sapi_Regs).Z)) (r := (((t18 : Sapi_Regs).Z) == ((t31 : Sapi_Regs).Z))) (s := ((((t18 : Sapi_Regs).C) == ((t31 : Sapi_Regs).C)) && ((((t18 : Sapi_Regs).V) == ((t31 : Sapi_Regs).V)) && true))) (by kernel_rfl) (part_pv (by kernel_rfl)) (part_pv (by kernel_rfl)) (eq_pv (by kernel_rfl)) (eq_cons (a := .bool ((t18 : Sapi_Regs).C)) (b := .bool ((t31 : Sapi_Regs).C)) (r := (((t18 : Sapi_Regs).C) == ((t31 : Sapi_Regs).C))) (s := ((((t18 : Sapi_Regs).V) == ((t31 : Sapi_Regs).V)) && true)) (by kernel_rfl) (part_pv (by kernel_rfl)) (part_pv (by kernel_rfl)) (eq_pv (by kernel_rfl)) (eq_cons (a := .bool ((t18 : Sapi_Regs).V)) (b := .bool ((t31 : Sapi_Regs).V)) (r := (((t18 : Sapi_Regs).V) == ((t31 : Sapi_Regs).V))) (s := true) (by kernel_rfl) (part_pv (by kernel_rfl)) (part_pv (by kernel_rfl)) (eq_pv (by kernel_rfl)) eq_nil))))))))) [2, 3, 9, 11, 12, 13, 14, 15, 56, 59] (L' := [(2, .int .i64 a2), (3, .pointer (some ad2)), (9, .int .i64 t19), (11, .int .i64 t32), (12, .pointer (some ad50)), (13, .int .i64 t48), (14, .pointer (some ad60)), (15, .int .i64 t58), (56, .bool true), (59, .bool ((decide (((t18 : Sapi_Regs).R) = ((t31 : Sapi_Regs).R))) && ((((t18 : Sapi_Regs).H) == ((t31 : Sapi_Regs).H)) && ((((t18 : Sapi_Regs).N) == ((t31 : Sapi_Regs).N)) && ((((t18 : Sapi_Regs).Z) == ((t31 : Sapi_Regs).Z)) && ((((t18 : Sapi_Regs).C) == ((t31 : Sapi_Regs).C)) && ((((t18 : Sapi_Regs).V) == ((t31 : Sapi_Regs).V)) && true)))))))]) (by kernel_rfl) ?_
   clear hs; intro a hs
   refine q_pvs 5 7 [2, 3, 9, 11, 12, 13, 14, 15, 61] hs (L' := [(2, .int .i64 a2), (3, .pointer (some ad2)), (9, .int .i64 t19), (11, .int .i64 t32), (12, .pointer (some ad50)), (13, .int .i64 t48), (14, .pointer (some ad60)), (15, .int .i64 t58), (61, .bool ((decide (((t18 : Sapi_Regs).R) = ((t31 : Sapi_Regs).R))) && ((((t18 : Sapi_Regs).H) == ((t31 : Sapi_Regs).H)) && ((((t18 : Sapi_Regs).N) == ((t31 : Sapi_Regs).N)) && ((((t18 : Sapi_Regs).Z) == ((t31 : Sapi_Regs).Z)) && ((((t18 : Sapi_Regs).C) == ((t31 : Sapi_Regs).C)) && ((((t18 : Sapi_Regs).V) == ((t31 : Sapi_Regs).V)) && true)))))))]) (by kernel_rfl) ?_ rfl
   clear hs; intro a hs
   cases hb83 : ((decide (((t18 : Sapi_Regs).R) = ((t31 : Sapi_Regs).R))) && ((((t18 : Sapi_Regs).H) == ((t31 : Sapi_Regs).H)) && ((((t18 : Sapi_Regs).N) == ((t31 : Sapi_Regs).N)) && ((((t18 : Sapi_Regs).Z) == ((t31 : Sapi_Regs).Z)) && ((((t18 : Sapi_Regs).C) == ((t31 : Sapi_Regs).C)) && ((((t18 : Sapi_Regs).V) == ((t31 : Sapi_Regs).V)) && true))))))
   ·replace H := ite_f H (ff hb83)
    rw [hb83] at hs
    refine q_pvs 7 31 [6] hs (L' := [(6, .bool false)]) (by kernel_rfl) ?_ rfl
    clear hs; intro a hs
    refine q_end (by kernel_rfl) ?_
    intro wq hbq
    replace hw := hw.behind hbq
    replace hw := hw.up 5
    replace hw := hw.up 5
    replace hw := hw.up 5
    replace hw := hw.up 5
    replace hw := hw.up 5
    replace hw := hw.up 5
    replace hw := hw.only 6
    exact hJ2 false _ _ (hs.keep [6] (by kernel_rfl)) hw H
   ·replace H := ite_t H hb83
    rw [hb83] at hs
    refine q_pvs 7 12 [2, 3, 12, 13, 14, 15, 66] hs (L' := [(2, .int .i64 a2), (3, .pointer (some ad2)), (12, .pointer (some ad50)), (13, .int .i64 t48), (14, .pointer (some ad60)), (15, .int .i64 t58), (66, .bool (t19 == t32))]) (by kernel_rfl) ?_ rfl
    clear hs; intro a hs
    cases hb84 : (t19 == t32)
    ·replace H := ite_f H (beq_eq_false_iff_ne.1 hb84)
     rw [hb84] at hs
     refine q_pvs 12 31 [6] hs (L' := [(6, .bool false)]) (by kernel_rfl) ?_ rfl
     clear hs; intro a hs
     refine q_end (by kernel_rfl) ?_
     intro wq hbq
     replace hw := hw.behind hbq
     replace hw := hw.up 5
     replace hw := hw.up 5
     replace hw := hw.up 5
     replace hw := hw.up 5
     replace hw := hw.up 5
     replace hw := hw.up 5
     replace hw := hw.only 6
     exact hJ2 false _ _ (hs.keep [6] (by kernel_rfl)) hw H
    ·replace H := ite_t H (beq_iff_eq.1 hb84)
     rw [hb84] at hs
     refine q_run hs (op := (Op.load 25 (Operand.tmp 12))) (ty := 25) (dst := some 67) (g := some (11, true)) (by kernel_rfl) (by kernel_rfl) (by kernel_rfl) (fun wx hbx => (x_lds (E := eSapi_Regs) (off := 0) (p := ad50) (cs := (eSapi_Regs.enc t47)) ((Rd.of_own (hw.up 1)).below hbx) (one_ok t47).1 (one_ok t47).2 (by kernel_rfl) (one_at _ _) (by kernel_rfl) (by kernel_rfl) (by kernel_rfl))) [2, 3, 13, 14, 15, 66, 67] (L' := [(2, .int .i64 a2), (3, .pointer (some ad2)), (13, .int .i64 t48), (14, .pointer (some ad60)), (15, .int .i64 t58), (66, .bool true), (67, .agg (eSapi_Regs.enc t47).toArray)]) (by kernel_rfl) ?_
     clear hs; intro a hs
     refine q_run hs (op := (Op.load 25 (Operand.tmp 14))) (ty := 25) (dst := some 68) (g := some (11, true)) (by kernel_rfl) (by kernel_rfl) (by kernel_rfl) (fun wx hbx => (x_lds (E := eSapi_Regs) (off := 0) (p := ad60) (cs := (eSapi_Regs.enc t57)) ((Rd.of_own (hw.up 0)).below hbx) (one_ok t57).1 (one_ok t57).2 (by kernel_rfl) (one_at _ _) (by kernel_rfl) (by kernel_rfl) (by kernel_rfl))) [2, 3, 13, 15, 66, 67, 68] (L' := [(2, .int .i64 a2), (3, .pointer (some ad2)), (13, .int .i64 t48), (15, .int .i64 t58), (66, .bool true), (67, .agg (eSapi_Regs.enc t47).toArray), (68, .agg (eSapi_Regs.enc t57).toArray)]) (by kernel_rfl) ?_
     clear hs; intro a hs
     refine q_run hs (op := (Op.binOp BinOp.eql 25 (Operand.tmp 67) (Operand.tmp 68) 25)) (ty := 4) (dst := some 69) (g := some (11, true)) (by kernel_rfl) (by kernel_rfl) (by kernel_rfl) (fun wx hbx => (x_eql (xs := (eSapi_Regs.enc t47).toArray) (ys := (eSapi_Regs.enc t57).toArray) (r := ((decide (t47.R = t57.R)) && ((t47.H == t57.H) && ((t47.N == t57.N) && ((t47.Z == t57.Z) && ((t47.C == t57.C) && ((t47.V == t57.V) && true))))))) (by kernel_rfl) (by kernel_rfl) (by kernel_rfl) (eq_struct Try.underlying25 (by kernel_rfl) (eq_cons (a := .agg (eA23.enc t47.R).toArray) (b := .agg (eA23.enc t57.R).toArray) (r := (decide (t47.R = t57.R))) (s := ((t47.H == t57.H) && ((t47.N == t57.N) && ((t47.Z == t57.Z) && ((t47.C == t57.C) && ((t47.V == t57.V) && true)))))) (by kernel_rfl) (part_pv (by kernel_rfl)) (part_pv (by kernel_rfl)) (eq_vec (e := 22) (k' := .u32) (k := .u32) t47.R t57.R (by kernel_rfl) (by kernel_rfl) (by kernel_rfl) (by kernel_rfl) (by kernel_rfl)) (eq_cons (a := .int .u32 t47.H) (b := .int .u32 t57.H) (r := (t47.H == t57.H)) (s := ((t47.N == t57.N) && ((t47.Z == t57.Z) && ((t47.C == t57.C) && ((t47.V == t57.V) && true))))) (by kernel_rfl) (part_pv (by kernel_rfl)) (part_pv (by kernel_rfl)) (eq_pv (by kernel_rfl)) (eq_cons (a := .bool t47.N) (b := .bool t57.N) (r := (t47.N == t57.N)) (s := ((t47.Z == t57.Z) && ((t47.C == t57.C) && ((t47.V == t57.V) && true)))) (by kernel_rfl) (part_pv (by kernel_rfl)) (part_pv (by kernel_rfl)) (eq_pv (by kernel_rfl)) (eq_cons (a := .bool t47.Z) (b := .bool t57.Z) (r := (t47.Z == t57.Z)) (s := ((t47.C == t57.C) && ((t47.V == t57.V) && true))) (by kernel_rfl) (part_pv (by kernel_rfl)) (part_pv (by kernel_rfl)) (eq_pv (by kernel_rfl)) (eq_cons (a := .bool t47.C) (b := .bool t57.C) (r := (t47.C == t57.C)) (s := ((t47.V == t57.V) && true)) (by kernel_rfl) (part_pv (by kernel_rfl)) (part_pv (by kernel_rfl)) (eq_pv (by kernel_rfl)) (eq_cons (a := .bool t47.V) (b := .bool t57.V) (r := (t47.V == t57.V)) (s := true) (by kernel_rfl) (part_pv (by kernel_rfl)) (part_pv (by kernel_rfl)) (eq_pv (by kernel_rfl)) eq_nil))))))))) [2, 3, 13, 15, 66, 69] (L' := [(2, .int .i64 a2), (3, .pointer (some ad2)), (13, .int .i64 t48), (15, .int .i64 t58), (66, .bool true), (69, .bool ((decide (t47.R = t57.R)) && ((t47.H == t57.H) && ((t47.N == t57.N) && ((t47.Z == t57.Z) && ((t47.C == t57.C) && ((t47.V == t57.V) && true)))))))]) (by kernel_rfl) ?_
     clear hs; intro a hs
     refine q_pvs 15 17 [2, 3, 13, 15, 71] hs (L' := [(2, .int .i64 a2), (3, .pointer (some ad2)), (13, .int .i64 t48), (15, .int .i64 t58), (71, .bool ((decide (t47.R = t57.R)) && ((t47.H == t57.H) && ((t47.N == t57.N) && ((t47.Z == t57.Z) && ((t47.C == t57.C) && ((t47.V == t57.V) && true)))))))]) (by kernel_rfl) ?_ rfl
     clear hs; intro a hs
     cases hb85 : ((decide (t47.R = t57.R)) && ((t47.H == t57.H) && ((t47.N == t57.N) && ((t47.Z == t57.Z) && ((t47.C == t57.C) && ((t47.V == t57.V) && true))))))
     ·replace H := ite_f H (ff hb85)
      rw [hb85] at hs
      refine q_pvs 17 31 [6] hs (L' := [(6, .bool false)]) (by kernel_rfl) ?_ rfl
      clear hs; intro a hs
      refine q_end (by kernel_rfl) ?_
      intro wq hbq
      replace hw := hw.behind hbq
      replace hw := hw.up 5
      replace hw := hw.up 5
      replace hw := hw.up 5
      replace hw := hw.up 5
      replace hw := hw.up 5
      replace hw := hw.up 5
      replace hw := hw.only 6
      exact hJ2 false _ _ (hs.keep [6] (by kernel_rfl)) hw H
     ·replace H := ite_t H hb85
      rw [hb85] at hs
      refine q_pvs 17 22 [2, 3, 76] hs (L' := [(2, .int .i64 a2), (3, .pointer (some ad2)), (76, .bool (t48 == t58))]) (by kernel_rfl) ?_ rfl
      clear hs; intro a hs
      cases hb86 : (t48 == t58)
      ·replace H := ite_f H (beq_eq_false_iff_ne.1 hb86)
       rw [hb86] at hs
       refine q_pvs 22 31 [6] hs (L' := [(6, .bool false)]) (by kernel_rfl) ?_ rfl
       clear hs; intro a hs
       refine q_end (by kernel_rfl) ?_
       intro wq hbq
       replace hw := hw.behind hbq
       replace hw := hw.up 5
       replace hw := hw.up 5
       replace hw := hw.up 5
       replace hw := hw.up 5
       replace hw := hw.up 5
       replace hw := hw.up 5
       replace hw := hw.only 6
       exact hJ2 false _ _ (hs.keep [6] (by kernel_rfl)) hw H
      ·replace H := ite_t H (beq_iff_eq.1 hb86)
       rw [hb86] at hs
       refine q_run hs (op := (Op.load 25 (Operand.tmp 3))) (ty := 25) (dst := some 77) (g := some (21, true)) (by kernel_rfl) (by kernel_rfl) (by kernel_rfl) (fun wx hbx => (x_lds (E := eSapi_Regs) (off := 0) (p := ad2) (cs := (eSapi_Regs.enc a0)) ((Rd.of_own (hw.up 5)).below hbx) (one_ok a0).1 (one_ok a0).2 (by kernel_rfl) (one_at _ _) (by kernel_rfl) (by kernel_rfl) (by kernel_rfl))) [2, 3, 76, 77] (L' := [(2, .int .i64 a2), (3, .pointer (some ad2)), (76, .bool true), (77, .agg (eSapi_Regs.enc a0).toArray)]) (by kernel_rfl) ?_
       clear hs; intro a hs
       refine q_pvs 23 24 [2, 3, 76, 77, 78] hs (L' := [(2, .int .i64 a2), (3, .pointer (some ad2)), (76, .bool true), (77, .agg (eSapi_Regs.enc a0).toArray), (78, .int .i64 a2)]) (by kernel_rfl) ?_ rfl
       clear hs; intro a hs
       obtain ⟨t88, hx89, H⟩ := bind_some H
       refine q_call hs (op := (Op.call { callee := (Callee.value (Operand.func 15)), args := #[(Operand.tmp 77), (Operand.tmp 78)], argTypes := #[25, 3] })) (ty := 4) (dst := some 79) (g := some (21, true)) (by kernel_rfl) (by kernel_rfl) (by kernel_rfl) (f := 15) (args := #[.agg (eSapi_Regs.enc a0).toArray, .int .i64 a2]) (v := .bool t88) (by kernel_rfl) (fun wx hbx => (alu_Taken.calls a0 a2 t88 _ hx89).mono ?_) [2, 3, 76, 79] (L' := [(2, .int .i64 a2), (3, .pointer (some ad2)), (76, .bool true), (79, .bool t88)]) (by kernel_rfl) ?_
       · rintro e wy ⟨rfl, hwy⟩
         exact ⟨rfl, below_st hbx hwy⟩
       clear hs; intro a hs
       refine q_run hs (op := (Op.load 25 (Operand.tmp 3))) (ty := 25) (dst := some 80) (g := some (21, true)) (by kernel_rfl) (by kernel_rfl) (by kernel_rfl) (fun wx hbx => (x_lds (E := eSapi_Regs) (off := 0) (p := ad2) (cs := (eSapi_Regs.enc a0)) ((Rd.of_own (hw.up 5)).below hbx) (one_ok a0).1 (one_ok a0).2 (by kernel_rfl) (one_at _ _) (by kernel_rfl) (by kernel_rfl) (by kernel_rfl))) [2, 76, 79, 80] (L' := [(2, .int .i64 a2), (76, .bool true), (79, .bool t88), (80, .agg (eSapi_Regs.enc a0).toArray)]) (by kernel_rfl) ?_
       clear hs; intro a hs
       refine q_pvs 26 27 [76, 79, 80, 81] hs (L' := [(76, .bool true), (79, .bool t88), (80, .agg (eSapi_Regs.enc a0).toArray), (81, .int .i64 a2)]) (by kernel_rfl) ?_ rfl
       clear hs; intro a hs
       obtain ⟨t91, hx92, H⟩ := bind_some H
       refine q_call hs (op := (Op.call { callee := (Callee.value (Operand.func 16)), args := #[(Operand.tmp 80), (Operand.tmp 81)], argTypes := #[25, 3] })) (ty := 4) (dst := some 82) (g := some (21, true)) (by kernel_rfl) (by kernel_rfl) (by kernel_rfl) (f := 16) (args := #[.agg (eSapi_Regs.enc a0).toArray, .int .i64 a2]) (v := .bool t91) (by kernel_rfl) (fun wx hbx => (rivetref04_Taken.calls a0 a2 t91 _ hx92).mono ?_) [76, 79, 82] (L' := [(76, .bool true), (79, .bool t88), (82, .bool t91)]) (by kernel_rfl) ?_
       · rintro e wy ⟨rfl, hwy⟩
         exact ⟨rfl, below_st hbx hwy⟩
       clear hs; intro a hs
       refine q_pvs 28 31 [6] hs (L' := [(6, .bool (t88 == t91))]) (by kernel_rfl) ?_ rfl
       clear hs; intro a hs
       refine q_end (by kernel_rfl) ?_
       intro wq hbq
       replace hw := hw.behind hbq
       replace hw := hw.up 5
       replace hw := hw.up 5
       replace hw := hw.up 5
       replace hw := hw.up 5
       replace hw := hw.up 5
       replace hw := hw.up 5
       replace hw := hw.only 6
       exact hJ2 (t88 == t91) _ _ (hs.keep [6] (by kernel_rfl)) hw H
 clear H
 refine go_loop (σ := Int) (fun σ a w => Slots a 85 [(2, .int .i64 a2), (3, .pointer (some ad2)), (7, .bool t12), (8, .pointer (some ad23)), (9, .int .i64 t19), (10, .pointer (some ad36)), (11, .int .i64 t32), (12, .pointer (some ad50)), (13, .int .i64 t48), (14, .pointer (some ad60)), (15, .int .i64 t58), (16, .int .i64 σ)] ∧ St [] w0 w [own 25 eSapi_Regs (some ad60) 1 [t57], own 25 eSapi_Regs (some ad50) 1 [t47], own 25 eSapi_Regs (some ad36) 1 [(t31 : Sapi_Regs)], own 25 eSapi_Regs (some ad23) 1 [(t18 : Sapi_Regs)], own 27 eSapi_Instr (some ad6) 1 [a1], own 25 eSapi_Regs (some ad2) 1 [a0]]) hl64 (by exact ⟨hs.keep [2, 3, 7, 8, 9, 10, 11, 12, 13, 14, 15, 16] (by kernel_rfl), hw⟩) ?_
 rintro v65 a w ⟨hs, hw⟩ o H hr64
 replace hs : Slots a 85 [(2, .int .i64 a2), (3, .pointer (some ad2)), (7, .bool t12), (8, .pointer (some ad23)), (9, .int .i64 t19), (10, .pointer (some ad36)), (11, .int .i64 t32), (12, .pointer (some ad50)), (13, .int .i64 t48), (14, .pointer (some ad60)), (15, .int .i64 t58), (16, .int .i64 v65)] := hs
 replace hw : St [] w0 w [own 25 eSapi_Regs (some ad60) 1 [t57], own 25 eSapi_Regs (some ad50) 1 [t47], own 25 eSapi_Regs (some ad36) 1 [(t31 : Sapi_Regs)], own 25 eSapi_Regs (some ad23) 1 [(t18 : Sapi_Regs)], own 27 eSapi_Instr (some ad6) 1 [a1], own 25 eSapi_Regs (some ad2) 1 [a0]] := hw
 replace H : rivetlaw04_AluAll.b64 a0 v65 = some o := H
 unfold rivetlaw04_AluAll.b64 at H
 refine go_seq_k fun K66 hK66 => ?_
 refine go_seq_k fun K67 hK67 => ?_
 refine go_region ?_
 refine go_pvs 0 2 [2, 3, 7, 8, 9, 10, 11, 12, 13, 14, 15, 16, 45] hs (L' := [(2, .int .i64 a2), (3, .pointer (some ad2)), (7, .bool t12), (8, .pointer (some ad23)), (9, .int .i64 t19), (10, .pointer (some ad36)), (11, .int .i64 t32), (12, .pointer (some ad50)), (13, .int .i64 t48), (14, .pointer (some ad60)), (15, .int .i64 t58), (16, .int .i64 v65), (45, .bool (decide (v65 < 17)))]) (by kernel_rfl) ?_ rfl
 clear hs; intro a hs
 refine go_end (by kernel_rfl) ?_
 refine hK67 _ _ ?_
 refine go_cond hs (decide (v65 < 17)) (by kernel_rfl) (fun hc => ?_) (fun hc => ?_)
 ·replace H := ite_t H (of_decide_eq_true hc)
  have hb68 := hc
  rw [hb68] at hs
  refine wp_skip ?_
  refine hK66 _ _ ?_
  refine go_seq_k fun K69 hK69 => ?_
  refine wp_block ?_
  refine go_seq_k fun K70 hK70 => ?_
  refine q2_region (by kernel_rfl) (by kernel_rfl) ?_
  refine q_run hs (op := (Op.load 25 (Operand.tmp 3))) (ty := 25) (dst := some 48) (g := none) (by kernel_rfl) (by kernel_rfl) (by kernel_rfl) (fun wx hbx => (x_lds (E := eSapi_Regs) (off := 0) (p := ad2) (cs := (eSapi_Regs.enc a0)) ((Rd.of_own (hw.up 5)).below hbx) (one_ok a0).1 (one_ok a0).2 (by kernel_rfl) (one_at _ _) (by kernel_rfl) (by kernel_rfl) (by kernel_rfl))) [2, 3, 7, 8, 9, 10, 11, 12, 13, 14, 15, 16, 48] (L' := [(2, .int .i64 a2), (3, .pointer (some ad2)), (7, .bool t12), (8, .pointer (some ad23)), (9, .int .i64 t19), (10, .pointer (some ad36)), (11, .int .i64 t32), (12, .pointer (some ad50)), (13, .int .i64 t48), (14, .pointer (some ad60)), (15, .int .i64 t58), (16, .int .i64 v65), (48, .agg (eSapi_Regs.enc a0).toArray)]) (by kernel_rfl) ?_
  clear hs; intro a hs
  refine q_pvs 1 2 [2, 3, 7, 8, 9, 10, 11, 12, 13, 14, 15, 16, 48, 49] hs (L' := [(2, .int .i64 a2), (3, .pointer (some ad2)), (7, .bool t12), (8, .pointer (some ad23)), (9, .int .i64 t19), (10, .pointer (some ad36)), (11, .int .i64 t32), (12, .pointer (some ad50)), (13, .int .i64 t48), (14, .pointer (some ad60)), (15, .int .i64 t58), (16, .int .i64 v65), (48, .agg (eSapi_Regs.enc a0).toArray), (49, .int .i64 v65)]) (by kernel_rfl) ?_ rfl
  clear hs; intro a hs
  obtain ⟨t72, hx73, H⟩ := bind_some H
  refine q_call hs (op := (Op.call { callee := (Callee.value (Operand.func 15)), args := #[(Operand.tmp 48), (Operand.tmp 49)], argTypes := #[25, 3] })) (ty := 4) (dst := some 50) (g := none) (by kernel_rfl) (by kernel_rfl) (by kernel_rfl) (f := 15) (args := #[.agg (eSapi_Regs.enc a0).toArray, .int .i64 v65]) (v := .bool t72) (by kernel_rfl) (fun wx hbx => (alu_Taken.calls a0 v65 t72 _ hx73).mono ?_) [2, 3, 7, 8, 9, 10, 11, 12, 13, 14, 15, 16, 50] (L' := [(2, .int .i64 a2), (3, .pointer (some ad2)), (7, .bool t12), (8, .pointer (some ad23)), (9, .int .i64 t19), (10, .pointer (some ad36)), (11, .int .i64 t32), (12, .pointer (some ad50)), (13, .int .i64 t48), (14, .pointer (some ad60)), (15, .int .i64 t58), (16, .int .i64 v65), (50, .bool t72)]) (by kernel_rfl) ?_
  · rintro e wy ⟨rfl, hwy⟩
    exact ⟨rfl, below_st hbx hwy⟩
  clear hs; intro a hs
  refine q_run hs (op := (Op.load 25 (Operand.tmp 3))) (ty := 25) (dst := some 51) (g := none) (by kernel_rfl) (by kernel_rfl) (by kernel_rfl) (fun wx hbx => (x_lds (E := eSapi_Regs) (off := 0) (p := ad2) (cs := (eSapi_Regs.enc a0)) ((Rd.of_own (hw.up 5)).below hbx) (one_ok a0).1 (one_ok a0).2 (by kernel_rfl) (one_at _ _) (by kernel_rfl) (by kernel_rfl) (by kernel_rfl))) [2, 3, 7, 8, 9, 10, 11, 12, 13, 14, 15, 16, 50, 51] (L' := [(2, .int .i64 a2), (3, .pointer (some ad2)), (7, .bool t12), (8, .pointer (some ad23)), (9, .int .i64 t19), (10, .pointer (some ad36)), (11, .int .i64 t32), (12, .pointer (some ad50)), (13, .int .i64 t48), (14, .pointer (some ad60)), (15, .int .i64 t58), (16, .int .i64 v65), (50, .bool t72), (51, .agg (eSapi_Regs.enc a0).toArray)]) (by kernel_rfl) ?_
  clear hs; intro a hs
  refine q_pvs 4 5 [2, 3, 7, 8, 9, 10, 11, 12, 13, 14, 15, 16, 50, 51, 52] hs (L' := [(2, .int .i64 a2), (3, .pointer (some ad2)), (7, .bool t12), (8, .pointer (some ad23)), (9, .int .i64 t19), (10, .pointer (some ad36)), (11, .int .i64 t32), (12, .pointer (some ad50)), (13, .int .i64 t48), (14, .pointer (some ad60)), (15, .int .i64 t58), (16, .int .i64 v65), (50, .bool t72), (51, .agg (eSapi_Regs.enc a0).toArray), (52, .int .i64 v65)]) (by kernel_rfl) ?_ rfl
  clear hs; intro a hs
  obtain ⟨t75, hx76, H⟩ := bind_some H
  refine q_call hs (op := (Op.call { callee := (Callee.value (Operand.func 16)), args := #[(Operand.tmp 51), (Operand.tmp 52)], argTypes := #[25, 3] })) (ty := 4) (dst := some 53) (g := none) (by kernel_rfl) (by kernel_rfl) (by kernel_rfl) (f := 16) (args := #[.agg (eSapi_Regs.enc a0).toArray, .int .i64 v65]) (v := .bool t75) (by kernel_rfl) (fun wx hbx => (rivetref04_Taken.calls a0 v65 t75 _ hx76).mono ?_) [2, 3, 7, 8, 9, 10, 11, 12, 13, 14, 15, 16, 50, 53] (L' := [(2, .int .i64 a2), (3, .pointer (some ad2)), (7, .bool t12), (8, .pointer (some ad23)), (9, .int .i64 t19), (10, .pointer (some ad36)), (11, .int .i64 t32), (12, .pointer (some ad50)), (13, .int .i64 t48), (14, .pointer (some ad60)), (15, .int .i64 t58), (16, .int .i64 v65), (50, .bool t72), (53, .bool t75)]) (by kernel_rfl) ?_
  · rintro e wy ⟨rfl, hwy⟩
    exact ⟨rfl, below_st hbx hwy⟩
  clear hs; intro a hs
  refine q_pvs 6 7 [2, 3, 7, 8, 9, 10, 11, 12, 13, 14, 15, 16, 54] hs (L' := [(2, .int .i64 a2), (3, .pointer (some ad2)), (7, .bool t12), (8, .pointer (some ad23)), (9, .int .i64 t19), (10, .pointer (some ad36)), (11, .int .i64 t32), (12, .pointer (some ad50)), (13, .int .i64 t48), (14, .pointer (some ad60)), (15, .int .i64 t58), (16, .int .i64 v65), (54, .bool (t72 != t75))]) (by kernel_rfl) ?_ rfl
  clear hs; intro a hs
  refine q_end (by kernel_rfl) ?_
  intro wq hbq
  replace hw := hw.behind hbq
  refine hK70 _ _ ?_
  refine go_cond hs (t72 != t75) (by kernel_rfl) (fun hc => ?_) (fun hc => ?_)
  ·replace H := ite_t H hc
   have hb77 := hc
   rw [hb77] at hs
   refine go_seq_k fun K78 hK78 => ?_
   refine go_region ?_
   refine go_pvs 0 1 [6] hs (L' := [(6, .bool false)]) (by kernel_rfl) ?_ rfl
   clear hs; intro a hs
   refine go_end (by kernel_rfl) ?_
   refine hK78 _ _ ?_
   refine wp_ret ?_
   refine ib_ret ?_
   refine th_ret ?_
   refine th_ret ?_
   refine ib_ret ?_
   refine th_ret ?_
   rw [← hr64 _ (Option.some.inj H).symm] at HX64
   replace H : some false = some r := HX64
   obtain rfl := Option.some.inj H
   refine ret1 (t := 6) (v := .bool false) hs (by kernel_rfl) (by kernel_rfl) ?_
   exact ⟨rfl, hw.only 0⟩
  ·replace H := ite_f H (ff hc)
   have hb79 := hc
   rw [hb79] at hs
   refine wp_skip ?_
   refine ib_norm ?_
   refine hK69 _ _ ?_
   refine go_region ?_
   refine go_pvs 0 3 [2, 3, 7, 8, 9, 10, 11, 12, 13, 14, 15, 16] hs (L' := [(2, .int .i64 a2), (3, .pointer (some ad2)), (7, .bool t12), (8, .pointer (some ad23)), (9, .int .i64 t19), (10, .pointer (some ad36)), (11, .int .i64 t32), (12, .pointer (some ad50)), (13, .int .i64 t48), (14, .pointer (some ad60)), (15, .int .i64 t58), (16, .int .i64 (w64 (v65 + 1)))]) (by kernel_rfl) ?_ rfl
   clear hs; intro a hs
   refine go_end (by kernel_rfl) ?_
   replace hw := hw.up 5
   replace hw := hw.up 5
   replace hw := hw.up 5
   replace hw := hw.up 5
   replace hw := hw.up 5
   replace hw := hw.up 5
   replace hw := hw.only 6
   exact round_end (w64 (v65 + 1)) (Option.some.inj H).symm ⟨hs.keep [2, 3, 7, 8, 9, 10, 11, 12, 13, 14, 15, 16] (by kernel_rfl), hw⟩
 ·replace H := ite_f H (of_decide_eq_false hc)
  have hb80 := hc
  rw [hb80] at hs
  refine wp_exit ?_
  refine th_exit ?_
  refine th_exit ?_
  refine in_block ?_
  replace hw := hw.up 5
  replace hw := hw.up 5
  replace hw := hw.up 5
  replace hw := hw.up 5
  replace hw := hw.up 5
  replace hw := hw.up 5
  replace hw := hw.only 6
  rw [← hr64 _ (Option.some.inj H).symm] at HX64
  exact hJ1 _ _ (hs.keep [2, 3, 7, 8, 9, 10, 11, 12, 13, 14, 15] (by kernel_rfl)) hw HX64

end Go.Proofs.Ytckefpenekolhaa.T04
