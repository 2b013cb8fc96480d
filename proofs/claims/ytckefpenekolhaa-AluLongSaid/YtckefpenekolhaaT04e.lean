/- YtckefpenekolhaaT04: Go functions told as plain ones, each with a proof that its call comes to what is told, part 5. Condition of each: that the plain function comes to a value. -/
import Derived.Test.YtckefpenekolhaaT04d
namespace Go.Proofs.Ytckefpenekolhaa.T04
open Go Go.RowKit Go.Proofs.Ytckefpenekolhaa.E
set_option linter.unusedVariables false
set_option linter.unusedSimpArgs false

/-! rivet/rivetref03.Fit: function 11 -/
noncomputable def rivetref03_Fit.j5 (v91 : Sapi_Instr) : Option Sapi_Instr := some (v91 : Sapi_Instr)
noncomputable def rivetref03_Fit.j4 (v45 : Sapi_Instr) (a0 : Sapi_Instr) (v61 : Bool) : Option Sapi_Instr := (if v61 = true then rivetref03_Fit.j5 ({ ({ ({ v45 with Imm := w64 ((band .i64 a0.Imm 131071) - 65536) } : Sapi_Instr) with U := true } : Sapi_Instr) with Imm := band .i64 a0.Imm 65535 } : Sapi_Instr) else rivetref03_Fit.j5 ({ v45 with Imm := w64 ((band .i64 a0.Imm 131071) - 65536) } : Sapi_Instr))
noncomputable def rivetref03_Fit.j3 (a0 : Sapi_Instr) (v45 : Sapi_Instr) : Option Sapi_Instr := (if v45.Kind = 1 then some ({ v45 with C := band .i64 a0.C 15 } : Sapi_Instr) else (if ((w64 ((a0.Op.tmod 12) + 12)).tmod 12) = 0 then rivetref03_Fit.j4 v45 a0 a0.U else rivetref03_Fit.j4 v45 a0 false))
noncomputable def rivetref03_Fit.j2 (a0 : Sapi_Instr) (v35 : Sapi_Instr) : Option Sapi_Instr := (if a0.U = true then (if ((w64 ((a0.Op.tmod 12) + 12)).tmod 12) ≥ 8 then rivetref03_Fit.j3 a0 ({ v35 with U := decide (((w64 ((a0.Op.tmod 12) + 12)).tmod 12) ≤ 10) } : Sapi_Instr) else rivetref03_Fit.j3 a0 ({ v35 with U := false } : Sapi_Instr)) else rivetref03_Fit.j3 a0 ({ v35 with U := false } : Sapi_Instr))
noncomputable def rivetref03_Fit.j1 (a0 : Sapi_Instr) (v24 : Bool) : Option Sapi_Instr := (if v24 = true then (if ((w64 ((a0.Op.tmod 12) + 12)).tmod 12) = 0 then rivetref03_Fit.j2 a0 ({ (⟨w64 (1 + ((w64 ((a0.Kind.tmod 7) + 7)).tmod 7)), 0, band .i64 a0.A 15, 0, 0, 0, false⟩ : Sapi_Instr) with Op := (w64 ((a0.Op.tmod 12) + 12)).tmod 12 } : Sapi_Instr) else rivetref03_Fit.j2 a0 ({ ({ (⟨w64 (1 + ((w64 ((a0.Kind.tmod 7) + 7)).tmod 7)), 0, band .i64 a0.A 15, 0, 0, 0, false⟩ : Sapi_Instr) with Op := (w64 ((a0.Op.tmod 12) + 12)).tmod 12 } : Sapi_Instr) with B := band .i64 a0.B 15 } : Sapi_Instr)) else (if (w64 (1 + ((w64 ((a0.Kind.tmod 7) + 7)).tmod 7))) = 5 then rivetref03_Fit.j5 ({ ({ ({ (⟨w64 (1 + ((w64 ((a0.Kind.tmod 7) + 7)).tmod 7)), 0, band .i64 a0.A 15, 0, 0, 0, false⟩ : Sapi_Instr) with Op := band .i64 a0.Op 3 } : Sapi_Instr) with B := band .i64 a0.B 15 } : Sapi_Instr) with Imm := w64 ((band .i64 a0.Imm 1048575) - 524288) } : Sapi_Instr) else (if (w64 (1 + ((w64 ((a0.Kind.tmod 7) + 7)).tmod 7))) = 6 then rivetref03_Fit.j5 (⟨w64 (1 + ((w64 ((a0.Kind.tmod 7) + 7)).tmod 7)), band .i64 a0.Op 15, 0, 0, band .i64 a0.C 15, 0, a0.U⟩ : Sapi_Instr) else (if (w64 (1 + ((w64 ((a0.Kind.tmod 7) + 7)).tmod 7))) = 7 then rivetref03_Fit.j5 (⟨w64 (1 + ((w64 ((a0.Kind.tmod 7) + 7)).tmod 7)), band .i64 a0.Op 15, 0, 0, 0, w64 ((band .i64 a0.Imm 16777215) - 8388608), a0.U⟩ : Sapi_Instr) else rivetref03_Fit.j5 (⟨w64 (1 + ((w64 ((a0.Kind.tmod 7) + 7)).tmod 7)), 0, band .i64 a0.A 15, 0, 0, 0, false⟩ : Sapi_Instr)))))
noncomputable def rivetref03_Fit (a0 : Sapi_Instr) : Option Sapi_Instr := (if (w64 (1 + ((w64 ((a0.Kind.tmod 7) + 7)).tmod 7))) = 1 then rivetref03_Fit.j1 a0 true else rivetref03_Fit.j1 a0 ((w64 (1 + ((w64 ((a0.Kind.tmod 7) + 7)).tmod 7))) == 2))
set_option maxRecDepth 100000 in
set_option maxHeartbeats 4000000 in
theorem rivetref03_Fit.calls (a0 : Sapi_Instr) (r : Sapi_Instr) (w0 : World) (H : rivetref03_Fit a0 = some r) :
    Calls Try.prog 11 #[.agg (eSapi_Instr.enc a0).toArray] w0 fun e w' => e = .returned (.agg (eSapi_Instr.enc r).toArray) ∧ St [] w0 w' [] := by
 have hw : St [] w0 w0 [] := St.nil w0
 unfold rivetref03_Fit at H
 refine go_fn Try.func11 rfl 111 Try.ntmps11 [(0, .agg (eSapi_Instr.enc a0).toArray)] (by kernel_rfl) rfl ?_
 intro a hs
 refine go_seq_k fun K1 hK1 => ?_
 refine go_region ?_
 obtain ⟨ad2, wd3, hx4, hw⟩ := x_box1 (P := Try.prog) (elem := 27) (v := (Operand.tmp 0)) (ty := 0) hs hw eSapi_Instr a0 (by kernel_rfl)
 refine go_run hs (op := (Op.box 27 (Operand.tmp 0))) (ty := 0) (dst := some 1) (g := none) (by kernel_rfl) (by kernel_rfl) (by kernel_rfl) hx4 [1] (L' := [(1, .pointer (some ad2))]) (by kernel_rfl) ?_
 clear hs; intro a hs
 obtain ⟨ad6, wd7, hx8, hw⟩ := x_alloc1 (P := Try.prog) (elem := 27) (ty := 0) (z := .agg (eSapi_Instr.enc (⟨0, 0, 0, 0, 0, 0, false⟩ : Sapi_Instr)).toArray) hs hw eSapi_Instr (⟨0, 0, 0, 0, 0, 0, false⟩ : Sapi_Instr) (by kernel_rfl) (by kernel_rfl)
 refine go_run hs (op := (Op.alloc 27)) (ty := 0) (dst := some 2) (g := none) (by kernel_rfl) (by kernel_rfl) (by kernel_rfl) hx8 [1, 2] (L' := [(1, .pointer (some ad2)), (2, .pointer (some ad6))]) (by kernel_rfl) ?_
 clear hs; intro a hs
 refine go_end (by kernel_rfl) ?_
 refine hK1 _ _ ?_
 refine go_seq_k fun K10 hK10 => ?_
 refine go_region ?_
 refine go_pvs 0 1 [1, 2, 5] hs (L' := [(1, .pointer (some ad2)), (2, .pointer (some ad6)), (5, .pointer (some ((ad2 : Addr).add 0)))]) (by kernel_rfl) ?_ rfl
 clear hs; intro a hs
 refine go_run hs (op := (Op.load 3 (Operand.tmp 5))) (ty := 3) (dst := some 6) (g := none) (by kernel_rfl) (by kernel_rfl) (by kernel_rfl) (x_ld (E := eSapi_Instr) (off := 0) (p := (ad2 : Addr).add 0) (v := .int .i64 a0.Kind) (Rd.of_own (hw.up 1)) (one_ok a0).1 (one_ok a0).2 (by kernel_rfl) (one_off _ _ _) (by kernel_rfl) (by kernel_rfl)) [1, 2, 6] (L' := [(1, .pointer (some ad2)), (2, .pointer (some ad6)), (6, .int .i64 a0.Kind)]) (by kernel_rfl) ?_
 clear hs; intro a hs
 refine go_pvs 2 7 [1, 2, 10, 11] hs (L' := [(1, .pointer (some ad2)), (2, .pointer (some ad6)), (10, .int .i64 (w64 (1 + ((w64 ((a0.Kind.tmod 7) + 7)).tmod 7)))), (11, .pointer (some ((ad2 : Addr).add 2)))]) (by kernel_rfl) ?_ rfl
 clear hs; intro a hs
 refine go_run hs (op := (Op.load 3 (Operand.tmp 11))) (ty := 3) (dst := some 12) (g := none) (by kernel_rfl) (by kernel_rfl) (by kernel_rfl) (x_ld (E := eSapi_Instr) (off := 2) (p := (ad2 : Addr).add 2) (v := .int .i64 a0.A) (Rd.of_own (hw.up 1)) (one_ok a0).1 (one_ok a0).2 (by kernel_rfl) (one_off _ _ _) (by kernel_rfl) (by kernel_rfl)) [1, 2, 10, 12] (L' := [(1, .pointer (some ad2)), (2, .pointer (some ad6)), (10, .int .i64 (w64 (1 + ((w64 ((a0.Kind.tmod 7) + 7)).tmod 7)))), (12, .int .i64 a0.A)]) (by kernel_rfl) ?_
 clear hs; intro a hs
 refine go_pvs 8 10 [1, 2, 14] hs (L' := [(1, .pointer (some ad2)), (2, .pointer (some ad6)), (14, .agg (eSapi_Instr.enc (⟨w64 (1 + ((w64 ((a0.Kind.tmod 7) + 7)).tmod 7)), 0, band .i64 a0.A 15, 0, 0, 0, false⟩ : Sapi_Instr)).toArray)]) (by kernel_rfl) ?_ rfl
 clear hs; intro a hs
 obtain ⟨ad11, wd12, hx13, hw⟩ := x_alloc1 (P := Try.prog) (elem := 27) (ty := 0) (z := .agg (eSapi_Instr.enc (⟨0, 0, 0, 0, 0, 0, false⟩ : Sapi_Instr)).toArray) hs hw eSapi_Instr (⟨0, 0, 0, 0, 0, 0, false⟩ : Sapi_Instr) (by kernel_rfl) (by kernel_rfl)
 refine go_run hs (op := (Op.alloc 27)) (ty := 0) (dst := some 3) (g := none) (by kernel_rfl) (by kernel_rfl) (by kernel_rfl) hx13 [1, 2, 3, 14] (L' := [(1, .pointer (some ad2)), (2, .pointer (some ad6)), (3, .pointer (some ad11)), (14, .agg (eSapi_Instr.enc (⟨w64 (1 + ((w64 ((a0.Kind.tmod 7) + 7)).tmod 7)), 0, band .i64 a0.A 15, 0, 0, 0, false⟩ : Sapi_Instr)).toArray)]) (by kernel_rfl) ?_
 clear hs; intro a hs
 obtain ⟨wd15, hx16, hw⟩ := x_put (P := Try.prog) (ty := 0) (t := 27) (x := (Operand.tmp 3)) (y := (Operand.tmp 14)) (off := 0) (p := ad11) (v := .agg (eSapi_Instr.enc (⟨w64 (1 + ((w64 ((a0.Kind.tmod 7) + 7)).tmod 7)), 0, band .i64 a0.A 15, 0, 0, 0, false⟩ : Sapi_Instr)).toArray) (vs := (eSapi_Instr.enc (⟨w64 (1 + ((w64 ((a0.Kind.tmod 7) + 7)).tmod 7)), 0, band .i64 a0.A 15, 0, 0, 0, false⟩ : Sapi_Instr))) (i := 0) (e' := ((⟨w64 (1 + ((w64 ((a0.Kind.tmod 7) + 7)).tmod 7)), 0, band .i64 a0.A 15, 0, 0, 0, false⟩ : Sapi_Instr) : Sapi_Instr)) hs hw rfl (one_ok (⟨0, 0, 0, 0, 0, 0, false⟩ : Sapi_Instr)).1 (one_ok (⟨0, 0, 0, 0, 0, 0, false⟩ : Sapi_Instr)).2 (by kernel_rfl) (one_at _ _) (by kernel_rfl) rfl (by kernel_rfl) (Nat.le_of_ble_eq_true rfl) (eSapi_Instr.one _) (by kernel_rfl)
 refine go_unit hs (op := (Op.store 27 (Operand.tmp 3) (Operand.tmp 14))) (ty := 0) (dst := none) (g := none) (by kernel_rfl) (by kernel_rfl) (by kernel_rfl) hx16 [1, 2, 3] (L' := [(1, .pointer (some ad2)), (2, .pointer (some ad6)), (3, .pointer (some ad11))]) (by kernel_rfl) ?_
 clear hs; intro a hs
 replace hw : St [] w0 wd15 [own 27 eSapi_Instr (some ad11) 1 [(⟨w64 (1 + ((w64 ((a0.Kind.tmod 7) + 7)).tmod 7)), 0, band .i64 a0.A 15, 0, 0, 0, false⟩ : Sapi_Instr)], own 27 eSapi_Instr (some ad6) 1 [(⟨0, 0, 0, 0, 0, 0, false⟩ : Sapi_Instr)], own 27 eSapi_Instr (some ad2) 1 [a0]] := hw
 refine go_end (by kernel_rfl) ?_
 refine hK10 _ _ ?_
 refine go_seq_k fun K17 hK17 => ?_
 refine go_region ?_
 refine go_pvs 0 1 [1, 2, 3, 15] hs (L' := [(1, .pointer (some ad2)), (2, .pointer (some ad6)), (3, .pointer (some ad11)), (15, .pointer (some ((ad2 : Addr).add 1)))]) (by kernel_rfl) ?_ rfl
 clear hs; intro a hs
 refine go_run hs (op := (Op.load 3 (Operand.tmp 15))) (ty := 3) (dst := some 16) (g := none) (by kernel_rfl) (by kernel_rfl) (by kernel_rfl) (x_ld (E := eSapi_Instr) (off := 1) (p := (ad2 : Addr).add 1) (v := .int .i64 a0.Op) (Rd.of_own (hw.up 2)) (one_ok a0).1 (one_ok a0).2 (by kernel_rfl) (one_off _ _ _) (by kernel_rfl) (by kernel_rfl)) [1, 2, 3, 16] (L' := [(1, .pointer (some ad2)), (2, .pointer (some ad6)), (3, .pointer (some ad11)), (16, .int .i64 a0.Op)]) (by kernel_rfl) ?_
 clear hs; intro a hs
 refine go_pvs 2 6 [1, 2, 3, 4] hs (L' := [(1, .pointer (some ad2)), (2, .pointer (some ad6)), (3, .pointer (some ad11)), (4, .int .i64 ((w64 ((a0.Op.tmod 12) + 12)).tmod 12))]) (by kernel_rfl) ?_ rfl
 clear hs; intro a hs
 refine go_end (by kernel_rfl) ?_
 refine hK17 _ _ ?_
 refine go_seq_k fun K18 hK18 => ?_
 have hJ5 : ∀ (v91 : Sapi_Instr) (a : Act) (w : World), Slots a 111 [(2, .pointer (some ad6)), (3, .pointer (some ad11))] → St [] w0 w [own 27 eSapi_Instr (some ad11) 1 [v91], own 27 eSapi_Instr (some ad6) 1 [(⟨0, 0, 0, 0, 0, 0, false⟩ : Sapi_Instr)], own 27 eSapi_Instr (some ad2) 1 [a0]] → rivetref03_Fit.j5 v91 = some r → K18 a w := by
  intro v91 a w hs hw H
  unfold rivetref03_Fit.j5 at H
  refine hK18 _ _ ?_
  refine go_seq_k fun K92 hK92 => ?_
  refine go_region ?_
  refine go_run hs (op := (Op.load 27 (Operand.tmp 3))) (ty := 27) (dst := some 110) (g := none) (by kernel_rfl) (by kernel_rfl) (by kernel_rfl) (x_lds (E := eSapi_Instr) (off := 0) (p := ad11) (cs := (eSapi_Instr.enc v91)) (Rd.of_own (hw.up 0)) (one_ok (⟨w64 (1 + ((w64 ((a0.Kind.tmod 7) + 7)).tmod 7)), 0, band .i64 a0.A 15, 0, 0, 0, false⟩ : Sapi_Instr)).1 (one_ok (⟨w64 (1 + ((w64 ((a0.Kind.tmod 7) + 7)).tmod 7)), 0, band .i64 a0.A 15, 0, 0, 0, false⟩ : Sapi_Instr)).2 (by kernel_rfl) (one_at _ _) (by kernel_rfl) (by kernel_rfl) (by kernel_rfl)) [2, 110] (L' := [(2, .pointer (some ad6)), (110, .agg (eSapi_Instr.enc v91).toArray)]) (by kernel_rfl) ?_
  clear hs; intro a hs
  replace hw := hw.up 1
  obtain ⟨wd93, hx94, hw⟩ := x_put (P := Try.prog) (ty := 0) (t := 27) (x := (Operand.tmp 2)) (y := (Operand.tmp 110)) (off := 0) (p := ad6) (v := .agg (eSapi_Instr.enc v91).toArray) (vs := (eSapi_Instr.enc v91)) (i := 0) (e' := ((v91 : Sapi_Instr) : Sapi_Instr)) hs hw rfl (one_ok (⟨0, 0, 0, 0, 0, 0, false⟩ : Sapi_Instr)).1 (one_ok (⟨0, 0, 0, 0, 0, 0, false⟩ : Sapi_Instr)).2 (by kernel_rfl) (one_at _ _) (by kernel_rfl) rfl (by kernel_rfl) (Nat.le_of_ble_eq_true rfl) (eSapi_Instr.one _) (by kernel_rfl)
  refine go_unit hs (op := (Op.store 27 (Operand.tmp 2) (Operand.tmp 110))) (ty := 0) (dst := none) (g := none) (by kernel_rfl) (by kernel_rfl) (by kernel_rfl) hx94 [2] (L' := [(2, .pointer (some ad6))]) (by kernel_rfl) ?_
  clear hs; intro a hs
  replace hw : St [] w0 wd93 [own 27 eSapi_Instr (some ad6) 1 [(v91 : Sapi_Instr)], own 27 eSapi_Instr (some ad11) 1 [v91], own 27 eSapi_Instr (some ad2) 1 [a0]] := hw
  refine go_end (by kernel_rfl) ?_
  refine hK92 _ _ ?_
  refine wp_ret ?_
  obtain rfl := Option.some.inj H
  refine ret1g (L := [(2, .pointer (some ad6))]) (r1 := .cell 2 27) (v1 := .agg (eSapi_Instr.enc (v91 : Sapi_Instr)).toArray) hs (by kernel_rfl) ⟨_, (show lk 2 [(2, .pointer (some ad6))] = some (.pointer (some ad6)) by kernel_rfl), lv_row (E := eSapi_Instr) (x := (v91 : Sapi_Instr)) (by kernel_rfl) (by kernel_rfl) (Rd.of_own (hw.up 0))⟩ ?_
  exact ⟨rfl, hw.only 0⟩
 refine go_seq_k fun K19 hK19 => ?_
 refine go_region ?_
 refine go_pvs 0 1 [1, 2, 3, 4, 20] hs (L' := [(1, .pointer (some ad2)), (2, .pointer (some ad6)), (3, .pointer (some ad11)), (4, .int .i64 ((w64 ((a0.Op.tmod 12) + 12)).tmod 12)), (20, .pointer (some ((ad11 : Addr).add 0)))]) (by kernel_rfl) ?_ rfl
 clear hs; intro a hs
 refine go_run hs (op := (Op.load 3 (Operand.tmp 20))) (ty := 3) (dst := some 21) (g := none) (by kernel_rfl) (by kernel_rfl) (by kernel_rfl) (x_ld (E := eSapi_Instr) (off := 0) (p := (ad11 : Addr).add 0) (v := .int .i64 (w64 (1 + ((w64 ((a0.Kind.tmod 7) + 7)).tmod 7)))) (Rd.of_own (hw.up 0)) (one_ok (⟨w64 (1 + ((w64 ((a0.Kind.tmod 7) + 7)).tmod 7)), 0, band .i64 a0.A 15, 0, 0, 0, false⟩ : Sapi_Instr)).1 (one_ok (⟨w64 (1 + ((w64 ((a0.Kind.tmod 7) + 7)).tmod 7)), 0, band .i64 a0.A 15, 0, 0, 0, false⟩ : Sapi_Instr)).2 (by kernel_rfl) (one_off _ _ _) (by kernel_rfl) (by kernel_rfl)) [1, 2, 3, 4, 21] (L' := [(1, .pointer (some ad2)), (2, .pointer (some ad6)), (3, .pointer (some ad11)), (4, .int .i64 ((w64 ((a0.Op.tmod 12) + 12)).tmod 12)), (21, .int .i64 (w64 (1 + ((w64 ((a0.Kind.tmod 7) + 7)).tmod 7))))]) (by kernel_rfl) ?_
 clear hs; intro a hs
 refine go_end (by kernel_rfl) ?_
 refine hK19 _ _ ?_
 refine wp_block ?_
 refine go_seq_k fun K20 hK20 => ?_
 have hJ1 : ∀ (v24 : Bool) (a : Act) (w : World), Slots a 111 [(1, .pointer (some ad2)), (2, .pointer (some ad6)), (3, .pointer (some ad11)), (4, .int .i64 ((w64 ((a0.Op.tmod 12) + 12)).tmod 12)), (21, .int .i64 (w64 (1 + ((w64 ((a0.Kind.tmod 7) + 7)).tmod 7)))), (22, .bool v24)] → St [] w0 w [own 27 eSapi_Instr (some ad11) 1 [(⟨w64 (1 + ((w64 ((a0.Kind.tmod 7) + 7)).tmod 7)), 0, band .i64 a0.A 15, 0, 0, 0, false⟩ : Sapi_Instr)], own 27 eSapi_Instr (some ad6) 1 [(⟨0, 0, 0, 0, 0, 0, false⟩ : Sapi_Instr)], own 27 eSapi_Instr (some ad2) 1 [a0]] → rivetref03_Fit.j1 a0 v24 = some r → K20 a w := by
  intro v24 a w hs hw H
  unfold rivetref03_Fit.j1 at H
  refine hK20 _ _ ?_
  refine go_cond hs v24 (by kernel_rfl) (fun hc => ?_) (fun hc => ?_)
  ·replace H := ite_t H hc
   have hb25 := hc
   rw [hb25] at hs
   refine go_seq_k fun K26 hK26 => ?_
   refine go_region ?_
   refine go_pvs 0 2 [1, 2, 3, 4, 25, 26] hs (L' := [(1, .pointer (some ad2)), (2, .pointer (some ad6)), (3, .pointer (some ad11)), (4, .int .i64 ((w64 ((a0.Op.tmod 12) + 12)).tmod 12)), (25, .int .i64 ((w64 ((a0.Op.tmod 12) + 12)).tmod 12)), (26, .pointer (some ((ad11 : Addr).add 1)))]) (by kernel_rfl) ?_ rfl
   clear hs; intro a hs
   obtain ⟨wd27, hx28, hw⟩ := x_put (P := Try.prog) (ty := 0) (t := 3) (x := (Operand.tmp 26)) (y := (Operand.tmp 25)) (off := 1) (p := (ad11 : Addr).add 1) (v := .int .i64 ((w64 ((a0.Op.tmod 12) + 12)).tmod 12)) (vs := [.int .i64 ((w64 ((a0.Op.tmod 12) + 12)).tmod 12)]) (i := 0) (e' := (({ (⟨w64 (1 + ((w64 ((a0.Kind.tmod 7) + 7)).tmod 7)), 0, band .i64 a0.A 15, 0, 0, 0, false⟩ : Sapi_Instr) with Op := (w64 ((a0.Op.tmod 12) + 12)).tmod 12 } : Sapi_Instr) : Sapi_Instr)) hs hw rfl (one_ok (⟨w64 (1 + ((w64 ((a0.Kind.tmod 7) + 7)).tmod 7)), 0, band .i64 a0.A 15, 0, 0, 0, false⟩ : Sapi_Instr)).1 (one_ok (⟨w64 (1 + ((w64 ((a0.Kind.tmod 7) + 7)).tmod 7)), 0, band .i64 a0.A 15, 0, 0, 0, false⟩ : Sapi_Instr)).2 (by kernel_rfl) (one_off _ _ _) (by kernel_rfl) rfl (by kernel_rfl) (Nat.le_of_ble_eq_true rfl) (by simp [Value.oneCell']) (by kernel_rfl)
   refine go_unit hs (op := (Op.store 3 (Operand.tmp 26) (Operand.tmp 25))) (ty := 0) (dst := none) (g := none) (by kernel_rfl) (by kernel_rfl) (by kernel_rfl) hx28 [1, 2, 3, 4] (L' := [(1, .pointer (some ad2)), (2, .pointer (some ad6)), (3, .pointer (some ad11)), (4, .int .i64 ((w64 ((a0.Op.tmod 12) + 12)).tmod 12))]) (by kernel_rfl) ?_
   clear hs; intro a hs
   replace hw : St [] w0 wd27 [own 27 eSapi_Instr (some ad11) 1 [({ (⟨w64 (1 + ((w64 ((a0.Kind.tmod 7) + 7)).tmod 7)), 0, band .i64 a0.A 15, 0, 0, 0, false⟩ : Sapi_Instr) with Op := (w64 ((a0.Op.tmod 12) + 12)).tmod 12 } : Sapi_Instr)], own 27 eSapi_Instr (some ad6) 1 [(⟨0, 0, 0, 0, 0, 0, false⟩ : Sapi_Instr)], own 27 eSapi_Instr (some ad2) 1 [a0]] := hw
   refine go_end (by kernel_rfl) ?_
   refine hK26 _ _ ?_
   refine go_seq_k fun K29 hK29 => ?_
   have hJ2 : ∀ (v35 : Sapi_Instr) (a : Act) (w : World), Slots a 111 [(1, .pointer (some ad2)), (2, .pointer (some ad6)), (3, .pointer (some ad11)), (4, .int .i64 ((w64 ((a0.Op.tmod 12) + 12)).tmod 12))] → St [] w0 w [own 27 eSapi_Instr (some ad11) 1 [v35], own 27 eSapi_Instr (some ad6) 1 [(⟨0, 0, 0, 0, 0, 0, false⟩ : Sapi_Instr)], own 27 eSapi_Instr (some ad2) 1 [a0]] → rivetref03_Fit.j2 a0 v35 = some r → K29 a w := by
    intro v35 a w hs hw H
    unfold rivetref03_Fit.j2 at H
    refine hK29 _ _ ?_
    refine go_seq_k fun K36 hK36 => ?_
    have hJ3 : ∀ (v45 : Sapi_Instr) (a : Act) (w : World), Slots a 111 [(1, .pointer (some ad2)), (2, .pointer (some ad6)), (3, .pointer (some ad11)), (4, .int .i64 ((w64 ((a0.Op.tmod 12) + 12)).tmod 12))] → St [] w0 w [own 27 eSapi_Instr (some ad11) 1 [v45], own 27 eSapi_Instr (some ad6) 1 [(⟨0, 0, 0, 0, 0, 0, false⟩ : Sapi_Instr)], own 27 eSapi_Instr (some ad2) 1 [a0]] → rivetref03_Fit.j3 a0 v45 = some r → K36 a w := by
     intro v45 a w hs hw H
     unfold rivetref03_Fit.j3 at H
     refine hK36 _ _ ?_
     refine go_seq_k fun K46 hK46 => ?_
     refine go_seq_k fun K47 hK47 => ?_
     refine go_region ?_
     refine go_pvs 0 1 [1, 2, 3, 4, 44] hs (L' := [(1, .pointer (some ad2)), (2, .pointer (some ad6)), (3, .pointer (some ad11)), (4, .int .i64 ((w64 ((a0.Op.tmod 12) + 12)).tmod 12)), (44, .pointer (some ((ad11 : Addr).add 0)))]) (by kernel_rfl) ?_ rfl
     clear hs; intro a hs
     refine go_run hs (op := (Op.load 3 (Operand.tmp 44))) (ty := 3) (dst := some 45) (g := none) (by kernel_rfl) (by kernel_rfl) (by kernel_rfl) (x_ld (E := eSapi_Instr) (off := 0) (p := (ad11 : Addr).add 0) (v := .int .i64 v45.Kind) (Rd.of_own (hw.up 0)) (one_ok ({ (⟨w64 (1 + ((w64 ((a0.Kind.tmod 7) + 7)).tmod 7)), 0, band .i64 a0.A 15, 0, 0, 0, false⟩ : Sapi_Instr) with Op := (w64 ((a0.Op.tmod 12) + 12)).tmod 12 } : Sapi_Instr)).1 (one_ok ({ (⟨w64 (1 + ((w64 ((a0.Kind.tmod 7) + 7)).tmod 7)), 0, band .i64 a0.A 15, 0, 0, 0, false⟩ : Sapi_Instr) with Op := (w64 ((a0.Op.tmod 12) + 12)).tmod 12 } : Sapi_Instr)).2 (by kernel_rfl) (one_off _ _ _) (by kernel_rfl) (by kernel_rfl)) [1, 2, 3, 4, 45] (L' := [(1, .pointer (some ad2)), (2, .pointer (some ad6)), (3, .pointer (some ad11)), (4, .int .i64 ((w64 ((a0.Op.tmod 12) + 12)).tmod 12)), (45, .int .i64 v45.Kind)]) (by kernel_rfl) ?_
     clear hs; intro a hs
     refine go_pvs 2 3 [1, 2, 3, 4, 46] hs (L' := [(1, .pointer (some ad2)), (2, .pointer (some ad6)), (3, .pointer (some ad11)), (4, .int .i64 ((w64 ((a0.Op.tmod 12) + 12)).tmod 12)), (46, .bool (v45.Kind == 1))]) (by kernel_rfl) ?_ rfl
     clear hs; intro a hs
     refine go_end (by kernel_rfl) ?_
     refine hK47 _ _ ?_
     refine go_cond hs (v45.Kind == 1) (by kernel_rfl) (fun hc => ?_) (fun hc => ?_)
     ·replace H := ite_t H (beq_iff_eq.1 hc)
      have hb48 := hc
      rw [hb48] at hs
      refine go_seq_k fun K49 hK49 => ?_
      refine go_region ?_
      refine go_pvs 0 1 [2, 3, 47] hs (L' := [(2, .pointer (some ad6)), (3, .pointer (some ad11)), (47, .pointer (some ((ad2 : Addr).add 4)))]) (by kernel_rfl) ?_ rfl
      clear hs; intro a hs
      refine go_run hs (op := (Op.load 3 (Operand.tmp 47))) (ty := 3) (dst := some 48) (g := none) (by kernel_rfl) (by kernel_rfl) (by kernel_rfl) (x_ld (E := eSapi_Instr) (off := 4) (p := (ad2 : Addr).add 4) (v := .int .i64 a0.C) (Rd.of_own (hw.up 2)) (one_ok a0).1 (one_ok a0).2 (by kernel_rfl) (one_off _ _ _) (by kernel_rfl) (by kernel_rfl)) [2, 3, 48] (L' := [(2, .pointer (some ad6)), (3, .pointer (some ad11)), (48, .int .i64 a0.C)]) (by kernel_rfl) ?_
      clear hs; intro a hs
      refine go_pvs 2 4 [2, 3, 49, 50] hs (L' := [(2, .pointer (some ad6)), (3, .pointer (some ad11)), (49, .int .i64 (band .i64 a0.C 15)), (50, .pointer (some ((ad11 : Addr).add 4)))]) (by kernel_rfl) ?_ rfl
      clear hs; intro a hs
      obtain ⟨wd50, hx51, hw⟩ := x_put (P := Try.prog) (ty := 0) (t := 3) (x := (Operand.tmp 50)) (y := (Operand.tmp 49)) (off := 4) (p := (ad11 : Addr).add 4) (v := .int .i64 (band .i64 a0.C 15)) (vs := [.int .i64 (band .i64 a0.C 15)]) (i := 0) (e' := (({ v45 with C := band .i64 a0.C 15 } : Sapi_Instr) : Sapi_Instr)) hs hw rfl (one_ok ({ (⟨w64 (1 + ((w64 ((a0.Kind.tmod 7) + 7)).tmod 7)), 0, band .i64 a0.A 15, 0, 0, 0, false⟩ : Sapi_Instr) with Op := (w64 ((a0.Op.tmod 12) + 12)).tmod 12 } : Sapi_Instr)).1 (one_ok ({ (⟨w64 (1 + ((w64 ((a0.Kind.tmod 7) + 7)).tmod 7)), 0, band .i64 a0.A 15, 0, 0, 0, false⟩ : Sapi_Instr) with Op := (w64 ((a0.Op.tmod 12) + 12)).tmod 12 } : Sapi_Instr)).2 (by kernel_rfl) (one_off _ _ _) (by kernel_rfl) rfl (by kernel_rfl) (Nat.le_of_ble_eq_true rfl) (by simp [Value.oneCell']) (by kernel_rfl)
      refine go_unit hs (op := (Op.store 3 (Operand.tmp 50) (Operand.tmp 49))) (ty := 0) (dst := none) (g := none) (by kernel_rfl) (by kernel_rfl) (by kernel_rfl) hx51 [2, 3] (L' := [(2, .pointer (some ad6)), (3, .pointer (some ad11))]) (by kernel_rfl) ?_
      clear hs; intro a hs
      replace hw : St [] w0 wd50 [own 27 eSapi_Instr (some ad11) 1 [({ v45 with C := band .i64 a0.C 15 } : Sapi_Instr)], own 27 eSapi_Instr (some ad6) 1 [(⟨0, 0, 0, 0, 0, 0, false⟩ : Sapi_Instr)], own 27 eSapi_Instr (some ad2) 1 [a0]] := hw
      refine go_end (by kernel_rfl) ?_
      refine hK49 _ _ ?_
      refine go_seq_k fun K52 hK52 => ?_
      refine go_region ?_
      refine go_run hs (op := (Op.load 27 (Operand.tmp 3))) (ty := 27) (dst := some 51) (g := none) (by kernel_rfl) (by kernel_rfl) (by kernel_rfl) (x_lds (E := eSapi_Instr) (off := 0) (p := ad11) (cs := (eSapi_Instr.enc ({ v45 with C := band .i64 a0.C 15 } : Sapi_Instr))) (Rd.of_own (hw.up 0)) (one_ok ({ v45 with C := band .i64 a0.C 15 } : Sapi_Instr)).1 (one_ok ({ v45 with C := band .i64 a0.C 15 } : Sapi_Instr)).2 (by kernel_rfl) (one_at _ _) (by kernel_rfl) (by kernel_rfl) (by kernel_rfl)) [2, 51] (L' := [(2, .pointer (some ad6)), (51, .agg (eSapi_Instr.enc ({ v45 with C := band .i64 a0.C 15 } : Sapi_Instr)).toArray)]) (by kernel_rfl) ?_
      clear hs; intro a hs
      replace hw := hw.up 1
      obtain ⟨wd53, hx54, hw⟩ := x_put (P := Try.prog) (ty := 0) (t := 27) (x := (Operand.tmp 2)) (y := (Operand.tmp 51)) (off := 0) (p := ad6) (v := .agg (eSapi_Instr.enc ({ v45 with C := band .i64 a0.C 15 } : Sapi_Instr)).toArray) (vs := (eSapi_Instr.enc ({ v45 with C := band .i64 a0.C 15 } : Sapi_Instr))) (i := 0) (e' := (({ v45 with C := band .i64 a0.C 15 } : Sapi_Instr) : Sapi_Instr)) hs hw rfl (one_ok (⟨0, 0, 0, 0, 0, 0, false⟩ : Sapi_Instr)).1 (one_ok (⟨0, 0, 0, 0, 0, 0, false⟩ : Sapi_Instr)).2 (by kernel_rfl) (one_at _ _) (by kernel_rfl) rfl (by kernel_rfl) (Nat.le_of_ble_eq_true rfl) (eSapi_Instr.one _) (by kernel_rfl)
      refine go_unit hs (op := (Op.store 27 (Operand.tmp 2) (Operand.tmp 51))) (ty := 0) (dst := none) (g := none) (by kernel_rfl) (by kernel_rfl) (by kernel_rfl) hx54 [2] (L' := [(2, .pointer (some ad6))]) (by kernel_rfl) ?_
      clear hs; intro a hs
      replace hw : St [] w0 wd53 [own 27 eSapi_Instr (some ad6) 1 [({ v45 with C := band .i64 a0.C 15 } : Sapi_Instr)], own 27 eSapi_Instr (some ad11) 1 [({ v45 with C := band .i64 a0.C 15 } : Sapi_Instr)], own 27 eSapi_Instr (some ad2) 1 [a0]] := hw
      refine go_end (by kernel_rfl) ?_
      refine hK52 _ _ ?_
      refine wp_ret ?_
      refine th_ret ?_
      refine ib_ret ?_
      refine th_ret ?_
      obtain rfl := Option.some.inj H
      refine ret1g (L := [(2, .pointer (some ad6))]) (r1 := .cell 2 27) (v1 := .agg (eSapi_Instr.enc ({ v45 with C := band .i64 a0.C 15 } : Sapi_Instr)).toArray) hs (by kernel_rfl) ⟨_, (show lk 2 [(2, .pointer (some ad6))] = some (.pointer (some ad6)) by kernel_rfl), lv_row (E := eSapi_Instr) (x := ({ v45 with C := band .i64 a0.C 15 } : Sapi_Instr)) (by kernel_rfl) (by kernel_rfl) (Rd.of_own (hw.up 0))⟩ ?_
      exact ⟨rfl, hw.only 0⟩
     ·replace H := ite_f H (beq_eq_false_iff_ne.1 hc)
      have hb55 := hc
      rw [hb55] at hs
      refine wp_skip ?_
      refine hK46 _ _ ?_
      refine go_seq_k fun K56 hK56 => ?_
      refine go_region ?_
      refine go_pvs 0 1 [1, 2, 3, 4, 52] hs (L' := [(1, .pointer (some ad2)), (2, .pointer (some ad6)), (3, .pointer (some ad11)), (4, .int .i64 ((w64 ((a0.Op.tmod 12) + 12)).tmod 12)), (52, .pointer (some ((ad2 : Addr).add 5)))]) (by kernel_rfl) ?_ rfl
      clear hs; intro a hs
      refine go_run hs (op := (Op.load 3 (Operand.tmp 52))) (ty := 3) (dst := some 53) (g := none) (by kernel_rfl) (by kernel_rfl) (by kernel_rfl) (x_ld (E := eSapi_Instr) (off := 5) (p := (ad2 : Addr).add 5) (v := .int .i64 a0.Imm) (Rd.of_own (hw.up 2)) (one_ok a0).1 (one_ok a0).2 (by kernel_rfl) (one_off _ _ _) (by kernel_rfl) (by kernel_rfl)) [1, 2, 3, 4, 53] (L' := [(1, .pointer (some ad2)), (2, .pointer (some ad6)), (3, .pointer (some ad11)), (4, .int .i64 ((w64 ((a0.Op.tmod 12) + 12)).tmod 12)), (53, .int .i64 a0.Imm)]) (by kernel_rfl) ?_
      clear hs; intro a hs
      refine go_pvs 2 5 [1, 2, 3, 4, 55, 56] hs (L' := [(1, .pointer (some ad2)), (2, .pointer (some ad6)), (3, .pointer (some ad11)), (4, .int .i64 ((w64 ((a0.Op.tmod 12) + 12)).tmod 12)), (55, .int .i64 (w64 ((band .i64 a0.Imm 131071) - 65536))), (56, .pointer (some ((ad11 : Addr).add 5)))]) (by kernel_rfl) ?_ rfl
      clear hs; intro a hs
      obtain ⟨wd57, hx58, hw⟩ := x_put (P := Try.prog) (ty := 0) (t := 3) (x := (Operand.tmp 56)) (y := (Operand.tmp 55)) (off := 5) (p := (ad11 : Addr).add 5) (v := .int .i64 (w64 ((band .i64 a0.Imm 131071) - 65536))) (vs := [.int .i64 (w64 ((band .i64 a0.Imm 131071) - 65536))]) (i := 0) (e' := (({ v45 with Imm := w64 ((band .i64 a0.Imm 131071) - 65536) } : Sapi_Instr) : Sapi_Instr)) hs hw rfl (one_ok ({ (⟨w64 (1 + ((w64 ((a0.Kind.tmod 7) + 7)).tmod 7)), 0, band .i64 a0.A 15, 0, 0, 0, false⟩ : Sapi_Instr) with Op := (w64 ((a0.Op.tmod 12) + 12)).tmod 12 } : Sapi_Instr)).1 (one_ok ({ (⟨w64 (1 + ((w64 ((a0.Kind.tmod 7) + 7)).tmod 7)), 0, band .i64 a0.A 15, 0, 0, 0, false⟩ : Sapi_Instr) with Op := (w64 ((a0.Op.tmod 12) + 12)).tmod 12 } : Sapi_Instr)).2 (by kernel_rfl) (one_off _ _ _) (by kernel_rfl) rfl (by kernel_rfl) (Nat.le_of_ble_eq_true rfl) (by simp [Value.oneCell']) (by kernel_rfl)
      refine go_unit hs (op := (Op.store 3 (Operand.tmp 56) (Operand.tmp 55))) (ty := 0) (dst := none) (g := none) (by kernel_rfl) (by kernel_rfl) (by kernel_rfl) hx58 [1, 2, 3, 4] (L' := [(1, .pointer (some ad2)), (2, .pointer (some ad6)), (3, .pointer (some ad11)), (4, .int .i64 ((w64 ((a0.Op.tmod 12) + 12)).tmod 12))]) (by kernel_rfl) ?_
      clear hs; intro a hs
      replace hw : St [] w0 wd57 [own 27 eSapi_Instr (some ad11) 1 [({ v45 with Imm := w64 ((band .i64 a0.Imm 131071) - 65536) } : Sapi_Instr)], own 27 eSapi_Instr (some ad6) 1 [(⟨0, 0, 0, 0, 0, 0, false⟩ : Sapi_Instr)], own 27 eSapi_Instr (some ad2) 1 [a0]] := hw
      refine go_end (by kernel_rfl) ?_
      refine hK56 _ _ ?_
      refine go_seq_k fun K59 hK59 => ?_
      have hJ4 : ∀ (v61 : Bool) (a : Act) (w : World), Slots a 111 [(1, .pointer (some ad2)), (2, .pointer (some ad6)), (3, .pointer (some ad11)), (62, .bool v61)] → St [] w0 w [own 27 eSapi_Instr (some ad11) 1 [({ v45 with Imm := w64 ((band .i64 a0.Imm 131071) - 65536) } : Sapi_Instr)], own 27 eSapi_Instr (some ad6) 1 [(⟨0, 0, 0, 0, 0, 0, false⟩ : Sapi_Instr)], own 27 eSapi_Instr (some ad2) 1 [a0]] → rivetref03_Fit.j4 v45 a0 v61 = some r → K59 a w := by
       intro v61 a w hs hw H
       unfold rivetref03_Fit.j4 at H
       refine hK59 _ _ ?_
       refine go_cond hs v61 (by kernel_rfl) (fun hc => ?_) (fun hc => ?_)
       ·replace H := ite_t H hc
        have hb62 := hc
        rw [hb62] at hs
        refine go_seq_k fun K63 hK63 => ?_
        refine go_region ?_
        refine go_pvs 0 1 [1, 2, 3, 63] hs (L' := [(1, .pointer (some ad2)), (2, .pointer (some ad6)), (3, .pointer (some ad11)), (63, .pointer (some ((ad11 : Addr).add 6)))]) (by kernel_rfl) ?_ rfl
        clear hs; intro a hs
        obtain ⟨wd64, hx65, hw⟩ := x_put (P := Try.prog) (ty := 0) (t := 4) (x := (Operand.tmp 63)) (y := (Operand.const (Value.bool true))) (off := 6) (p := (ad11 : Addr).add 6) (v := .bool true) (vs := [.bool true]) (i := 0) (e' := (({ ({ v45 with Imm := w64 ((band .i64 a0.Imm 131071) - 65536) } : Sapi_Instr) with U := true } : Sapi_Instr) : Sapi_Instr)) hs hw rfl (one_ok ({ v45 with Imm := w64 ((band .i64 a0.Imm 131071) - 65536) } : Sapi_Instr)).1 (one_ok ({ v45 with Imm := w64 ((band .i64 a0.Imm 131071) - 65536) } : Sapi_Instr)).2 (by kernel_rfl) (one_off _ _ _) (by kernel_rfl) rfl (by kernel_rfl) (Nat.le_of_ble_eq_true rfl) (by simp [Value.oneCell']) (by kernel_rfl)
        refine go_unit hs (op := (Op.store 4 (Operand.tmp 63) (Operand.const (Value.bool true)))) (ty := 0) (dst := none) (g := none) (by kernel_rfl) (by kernel_rfl) (by kernel_rfl) hx65 [1, 2, 3] (L' := [(1, .pointer (some ad2)), (2, .pointer (some ad6)), (3, .pointer (some ad11))]) (by kernel_rfl) ?_
        clear hs; intro a hs
        replace hw : St [] w0 wd64 [own 27 eSapi_Instr (some ad11) 1 [({ ({ v45 with Imm := w64 ((band .i64 a0.Imm 131071) - 65536) } : Sapi_Instr) with U := true } : Sapi_Instr)], own 27 eSapi_Instr (some ad6) 1 [(⟨0, 0, 0, 0, 0, 0, false⟩ : Sapi_Instr)], own 27 eSapi_Instr (some ad2) 1 [a0]] := hw
        refine go_end (by kernel_rfl) ?_
        refine hK63 _ _ ?_
        refine go_region ?_
        refine go_pvs 0 1 [2, 3, 64] hs (L' := [(2, .pointer (some ad6)), (3, .pointer (some ad11)), (64, .pointer (some ((ad2 : Addr).add 5)))]) (by kernel_rfl) ?_ rfl
        clear hs; intro a hs
        refine go_run hs (op := (Op.load 3 (Operand.tmp 64))) (ty := 3) (dst := some 65) (g := none) (by kernel_rfl) (by kernel_rfl) (by kernel_rfl) (x_ld (E := eSapi_Instr) (off := 5) (p := (ad2 : Addr).add 5) (v := .int .i64 a0.Imm) (Rd.of_own (hw.up 2)) (one_ok a0).1 (one_ok a0).2 (by kernel_rfl) (one_off _ _ _) (by kernel_rfl) (by kernel_rfl)) [2, 3, 65] (L' := [(2, .pointer (some ad6)), (3, .pointer (some ad11)), (65, .int .i64 a0.Imm)]) (by kernel_rfl) ?_
        clear hs; intro a hs
        refine go_pvs 2 4 [2, 3, 66, 67] hs (L' := [(2, .pointer (some ad6)), (3, .pointer (some ad11)), (66, .int .i64 (band .i64 a0.Imm 65535)), (67, .pointer (some ((ad11 : Addr).add 5)))]) (by kernel_rfl) ?_ rfl
        clear hs; intro a hs
        obtain ⟨wd66, hx67, hw⟩ := x_put (P := Try.prog) (ty := 0) (t := 3) (x := (Operand.tmp 67)) (y := (Operand.tmp 66)) (off := 5) (p := (ad11 : Addr).add 5) (v := .int .i64 (band .i64 a0.Imm 65535)) (vs := [.int .i64 (band .i64 a0.Imm 65535)]) (i := 0) (e' := (({ ({ ({ v45 with Imm := w64 ((band .i64 a0.Imm 131071) - 65536) } : Sapi_Instr) with U := true } : Sapi_Instr) with Imm := band .i64 a0.Imm 65535 } : Sapi_Instr) : Sapi_Instr)) hs hw rfl (one_ok ({ ({ v45 with Imm := w64 ((band .i64 a0.Imm 131071) - 65536) } : Sapi_Instr) with U := true } : Sapi_Instr)).1 (one_ok ({ ({ v45 with Imm := w64 ((band .i64 a0.Imm 131071) - 65536) } : Sapi_Instr) with U := true } : Sapi_Instr)).2 (by kernel_rfl) (one_off _ _ _) (by kernel_rfl) rfl (by kernel_rfl) (Nat.le_of_ble_eq_true rfl) (by simp [Value.oneCell']) (by kernel_rfl)
        refine go_unit hs (op := (Op.store 3 (Operand.tmp 67) (Operand.tmp 66))) (ty := 0) (dst := none) (g := none) (by kernel_rfl) (by kernel_rfl) (by kernel_rfl) hx67 [2, 3] (L' := [(2, .pointer (some ad6)), (3, .pointer (some ad11))]) (by kernel_rfl) ?_
        clear hs; intro a hs
        replace hw : St [] w0 wd66 [own 27 eSapi_Instr (some ad11) 1 [({ ({ ({ v45 with Imm := w64 ((band .i64 a0.Imm 131071) - 65536) } : Sapi_Instr) with U := true } : Sapi_Instr) with Imm := band .i64 a0.Imm 65535 } : Sapi_Instr)], own 27 eSapi_Instr (some ad6) 1 [(⟨0, 0, 0, 0, 0, 0, false⟩ : Sapi_Instr)], own 27 eSapi_Instr (some ad2) 1 [a0]] := hw
        refine go_end (by kernel_rfl) ?_
        refine ib_norm ?_
        replace hw := hw.up 2
        replace hw := hw.up 2
        replace hw := hw.up 2
        replace hw := hw.only 3
        exact hJ5 ({ ({ ({ v45 with Imm := w64 ((band .i64 a0.Imm 131071) - 65536) } : Sapi_Instr) with U := true } : Sapi_Instr) with Imm := band .i64 a0.Imm 65535 } : Sapi_Instr) _ _ (hs.keep [2, 3] (by kernel_rfl)) hw H
       ·replace H := ite_f H (ff hc)
        have hb68 := hc
        rw [hb68] at hs
        refine wp_skip ?_
        refine ib_norm ?_
        replace hw := hw.up 2
        replace hw := hw.up 2
        replace hw := hw.up 2
        replace hw := hw.only 3
        exact hJ5 ({ v45 with Imm := w64 ((band .i64 a0.Imm 131071) - 65536) } : Sapi_Instr) _ _ (hs.keep [2, 3] (by kernel_rfl)) hw H
      refine go_region ?_
      refine go_pvs 0 3 [1, 2, 3, 59] hs (L' := [(1, .pointer (some ad2)), (2, .pointer (some ad6)), (3, .pointer (some ad11)), (59, .bool (((w64 ((a0.Op.tmod 12) + 12)).tmod 12) == 0))]) (by kernel_rfl) ?_ rfl
      clear hs; intro a hs
      cases hb60 : (((w64 ((a0.Op.tmod 12) + 12)).tmod 12) == 0)
      ·replace H := ite_f H (beq_eq_false_iff_ne.1 hb60)
       rw [hb60] at hs
       refine go_pvs 3 6 [1, 2, 3, 62] hs (L' := [(1, .pointer (some ad2)), (2, .pointer (some ad6)), (3, .pointer (some ad11)), (62, .bool false)]) (by kernel_rfl) ?_ rfl
       clear hs; intro a hs
       refine go_end (by kernel_rfl) ?_
       replace hw := hw.up 2
       replace hw := hw.up 2
       replace hw := hw.up 2
       replace hw := hw.only 3
       exact hJ4 false _ _ (hs.keep [1, 2, 3, 62] (by kernel_rfl)) hw H
      ·replace H := ite_t H (beq_iff_eq.1 hb60)
       rw [hb60] at hs
       refine go_pvs 3 4 [1, 2, 3, 59, 60] hs (L' := [(1, .pointer (some ad2)), (2, .pointer (some ad6)), (3, .pointer (some ad11)), (59, .bool true), (60, .pointer (some ((ad2 : Addr).add 6)))]) (by kernel_rfl) ?_ rfl
       clear hs; intro a hs
       refine go_run hs (op := (Op.load 4 (Operand.tmp 60))) (ty := 4) (dst := some 61) (g := some (2, true)) (by kernel_rfl) (by kernel_rfl) (by kernel_rfl) (x_ld (E := eSapi_Instr) (off := 6) (p := (ad2 : Addr).add 6) (v := .bool a0.U) (Rd.of_own (hw.up 2)) (one_ok a0).1 (one_ok a0).2 (by kernel_rfl) (one_off _ _ _) (by kernel_rfl) (by kernel_rfl)) [1, 2, 3, 59, 61] (L' := [(1, .pointer (some ad2)), (2, .pointer (some ad6)), (3, .pointer (some ad11)), (59, .bool true), (61, .bool a0.U)]) (by kernel_rfl) ?_
       clear hs; intro a hs
       refine go_pvs 5 6 [1, 2, 3, 62] hs (L' := [(1, .pointer (some ad2)), (2, .pointer (some ad6)), (3, .pointer (some ad11)), (62, .bool a0.U)]) (by kernel_rfl) ?_ rfl
       clear hs; intro a hs
       refine go_end (by kernel_rfl) ?_
       replace hw := hw.up 2
       replace hw := hw.up 2
       replace hw := hw.up 2
       replace hw := hw.only 3
       exact hJ4 a0.U _ _ (hs.keep [1, 2, 3, 62] (by kernel_rfl)) hw H
    refine go_region ?_
    refine go_pvs 0 1 [1, 2, 3, 4, 33] hs (L' := [(1, .pointer (some ad2)), (2, .pointer (some ad6)), (3, .pointer (some ad11)), (4, .int .i64 ((w64 ((a0.Op.tmod 12) + 12)).tmod 12)), (33, .pointer (some ((ad2 : Addr).add 6)))]) (by kernel_rfl) ?_ rfl
    clear hs; intro a hs
    refine go_run hs (op := (Op.load 4 (Operand.tmp 33))) (ty := 4) (dst := some 34) (g := none) (by kernel_rfl) (by kernel_rfl) (by kernel_rfl) (x_ld (E := eSapi_Instr) (off := 6) (p := (ad2 : Addr).add 6) (v := .bool a0.U) (Rd.of_own (hw.up 2)) (one_ok a0).1 (one_ok a0).2 (by kernel_rfl) (one_off _ _ _) (by kernel_rfl) (by kernel_rfl)) [1, 2, 3, 4, 34] (L' := [(1, .pointer (some ad2)), (2, .pointer (some ad6)), (3, .pointer (some ad11)), (4, .int .i64 ((w64 ((a0.Op.tmod 12) + 12)).tmod 12)), (34, .bool a0.U)]) (by kernel_rfl) ?_
    clear hs; intro a hs
    refine go_pvs 2 3 [1, 2, 3, 4, 35] hs (L' := [(1, .pointer (some ad2)), (2, .pointer (some ad6)), (3, .pointer (some ad11)), (4, .int .i64 ((w64 ((a0.Op.tmod 12) + 12)).tmod 12)), (35, .bool a0.U)]) (by kernel_rfl) ?_ rfl
    clear hs; intro a hs
    cases hb37 : a0.U
    ·replace H := ite_f H (ff hb37)
     rw [hb37] at hs
     refine go_pvs 3 11 [1, 2, 3, 4, 42, 43] hs (L' := [(1, .pointer (some ad2)), (2, .pointer (some ad6)), (3, .pointer (some ad11)), (4, .int .i64 ((w64 ((a0.Op.tmod 12) + 12)).tmod 12)), (42, .bool false), (43, .pointer (some ((ad11 : Addr).add 6)))]) (by kernel_rfl) ?_ rfl
     clear hs; intro a hs
     obtain ⟨wd38, hx39, hw⟩ := x_put (P := Try.prog) (ty := 0) (t := 4) (x := (Operand.tmp 43)) (y := (Operand.tmp 42)) (off := 6) (p := (ad11 : Addr).add 6) (v := .bool false) (vs := [.bool false]) (i := 0) (e' := (({ v35 with U := false } : Sapi_Instr) : Sapi_Instr)) hs hw rfl (one_ok ({ (⟨w64 (1 + ((w64 ((a0.Kind.tmod 7) + 7)).tmod 7)), 0, band .i64 a0.A 15, 0, 0, 0, false⟩ : Sapi_Instr) with Op := (w64 ((a0.Op.tmod 12) + 12)).tmod 12 } : Sapi_Instr)).1 (one_ok ({ (⟨w64 (1 + ((w64 ((a0.Kind.tmod 7) + 7)).tmod 7)), 0, band .i64 a0.A 15, 0, 0, 0, false⟩ : Sapi_Instr) with Op := (w64 ((a0.Op.tmod 12) + 12)).tmod 12 } : Sapi_Instr)).2 (by kernel_rfl) (one_off _ _ _) (by kernel_rfl) rfl (by kernel_rfl) (Nat.le_of_ble_eq_true rfl) (by simp [Value.oneCell']) (by kernel_rfl)
     refine go_unit hs (op := (Op.store 4 (Operand.tmp 43) (Operand.tmp 42))) (ty := 0) (dst := none) (g := none) (by kernel_rfl) (by kernel_rfl) (by kernel_rfl) hx39 [1, 2, 3, 4] (L' := [(1, .pointer (some ad2)), (2, .pointer (some ad6)), (3, .pointer (some ad11)), (4, .int .i64 ((w64 ((a0.Op.tmod 12) + 12)).tmod 12))]) (by kernel_rfl) ?_
     clear hs; intro a hs
     replace hw : St [] w0 wd38 [own 27 eSapi_Instr (some ad11) 1 [({ v35 with U := false } : Sapi_Instr)], own 27 eSapi_Instr (some ad6) 1 [(⟨0, 0, 0, 0, 0, 0, false⟩ : Sapi_Instr)], own 27 eSapi_Instr (some ad2) 1 [a0]] := hw
     refine go_end (by kernel_rfl) ?_
     replace hw := hw.up 2
     replace hw := hw.up 2
     replace hw := hw.up 2
     replace hw := hw.only 3
     exact hJ3 ({ v35 with U := false } : Sapi_Instr) _ _ (hs.keep [1, 2, 3, 4] (by kernel_rfl)) hw H
    ·replace H := ite_t H hb37
     rw [hb37] at hs
     refine go_pvs 3 7 [1, 2, 3, 4, 39] hs (L' := [(1, .pointer (some ad2)), (2, .pointer (some ad6)), (3, .pointer (some ad11)), (4, .int .i64 ((w64 ((a0.Op.tmod 12) + 12)).tmod 12)), (39, .bool (decide (((w64 ((a0.Op.tmod 12) + 12)).tmod 12) ≥ 8)))]) (by kernel_rfl) ?_ rfl
     clear hs; intro a hs
     cases hb40 : (decide (((w64 ((a0.Op.tmod 12) + 12)).tmod 12) ≥ 8))
     ·replace H := ite_f H (of_decide_eq_false hb40)
      rw [hb40] at hs
      refine go_pvs 7 11 [1, 2, 3, 4, 42, 43] hs (L' := [(1, .pointer (some ad2)), (2, .pointer (some ad6)), (3, .pointer (some ad11)), (4, .int .i64 ((w64 ((a0.Op.tmod 12) + 12)).tmod 12)), (42, .bool false), (43, .pointer (some ((ad11 : Addr).add 6)))]) (by kernel_rfl) ?_ rfl
      clear hs; intro a hs
      obtain ⟨wd41, hx42, hw⟩ := x_put (P := Try.prog) (ty := 0) (t := 4) (x := (Operand.tmp 43)) (y := (Operand.tmp 42)) (off := 6) (p := (ad11 : Addr).add 6) (v := .bool false) (vs := [.bool false]) (i := 0) (e' := (({ v35 with U := false } : Sapi_Instr) : Sapi_Instr)) hs hw rfl (one_ok ({ (⟨w64 (1 + ((w64 ((a0.Kind.tmod 7) + 7)).tmod 7)), 0, band .i64 a0.A 15, 0, 0, 0, false⟩ : Sapi_Instr) with Op := (w64 ((a0.Op.tmod 12) + 12)).tmod 12 } : Sapi_Instr)).1 (one_ok ({ (⟨w64 (1 + ((w64 ((a0.Kind.tmod 7) + 7)).tmod 7)), 0, band .i64 a0.A 15, 0, 0, 0, false⟩ : Sapi_Instr) with Op := (w64 ((a0.Op.tmod 12) + 12)).tmod 12 } : Sapi_Instr)).2 (by kernel_rfl) (one_off _ _ _) (by kernel_rfl) rfl (by kernel_rfl) (Nat.le_of_ble_eq_true rfl) (by simp [Value.oneCell']) (by kernel_rfl)
      refine go_unit hs (op := (Op.store 4 (Operand.tmp 43) (Operand.tmp 42))) (ty := 0) (dst := none) (g := none) (by kernel_rfl) (by kernel_rfl) (by kernel_rfl) hx42 [1, 2, 3, 4] (L' := [(1, .pointer (some ad2)), (2, .pointer (some ad6)), (3, .pointer (some ad11)), (4, .int .i64 ((w64 ((a0.Op.tmod 12) + 12)).tmod 12))]) (by kernel_rfl) ?_
      clear hs; intro a hs
      replace hw : St [] w0 wd41 [own 27 eSapi_Instr (some ad11) 1 [({ v35 with U := false } : Sapi_Instr)], own 27 eSapi_Instr (some ad6) 1 [(⟨0, 0, 0, 0, 0, 0, false⟩ : Sapi_Instr)], own 27 eSapi_Instr (some ad2) 1 [a0]] := hw
      refine go_end (by kernel_rfl) ?_
      replace hw := hw.up 2
      replace hw := hw.up 2
      replace hw := hw.up 2
      replace hw := hw.only 3
      exact hJ3 ({ v35 with U := false } : Sapi_Instr) _ _ (hs.keep [1, 2, 3, 4] (by kernel_rfl)) hw H
     ·replace H := ite_t H (of_decide_eq_true hb40)
      rw [hb40] at hs
      refine go_pvs 7 11 [1, 2, 3, 4, 42, 43] hs (L' := [(1, .pointer (some ad2)), (2, .pointer (some ad6)), (3, .pointer (some ad11)), (4, .int .i64 ((w64 ((a0.Op.tmod 12) + 12)).tmod 12)), (42, .bool (decide (((w64 ((a0.Op.tmod 12) + 12)).tmod 12) ≤ 10))), (43, .pointer (some ((ad11 : Addr).add 6)))]) (by kernel_rfl) ?_ rfl
      clear hs; intro a hs
      obtain ⟨wd43, hx44, hw⟩ := x_put (P := Try.prog) (ty := 0) (t := 4) (x := (Operand.tmp 43)) (y := (Operand.tmp 42)) (off := 6) (p := (ad11 : Addr).add 6) (v := .bool (decide (((w64 ((a0.Op.tmod 12) + 12)).tmod 12) ≤ 10))) (vs := [.bool (decide (((w64 ((a0.Op.tmod 12) + 12)).tmod 12) ≤ 10))]) (i := 0) (e' := (({ v35 with U := decide (((w64 ((a0.Op.tmod 12) + 12)).tmod 12) ≤ 10) } : Sapi_Instr) : Sapi_Instr)) hs hw rfl (one_ok ({ (⟨w64 (1 + ((w64 ((a0.Kind.tmod 7) + 7)).tmod 7)), 0, band .i64 a0.A 15, 0, 0, 0, false⟩ : Sapi_Instr) with Op := (w64 ((a0.Op.tmod 12) + 12)).tmod 12 } : Sapi_Instr)).1 (one_ok ({ (⟨w64 (1 + ((w64 ((a0.Kind.tmod 7) + 7)).tmod 7)), 0, band .i64 a0.A 15, 0, 0, 0, false⟩ : Sapi_Instr) with Op := (w64 ((a0.Op.tmod 12) + 12)).tmod 12 } : Sapi_Instr)).2 (by kernel_rfl) (one_off _ _ _) (by kernel_rfl) rfl (by kernel_rfl) (Nat.le_of_ble_eq_true rfl) (by simp [Value.oneCell']) (by kernel_rfl)
      refine go_unit hs (op := (Op.store 4 (Operand.tmp 43) (Operand.tmp 42))) (ty := 0) (dst := none) (g := none) (by kernel_rfl) (by kernel_rfl) (by kernel_rfl) hx44 [1, 2, 3, 4] (L' := [(1, .pointer (some ad2)), (2, .pointer (some ad6)), (3, .pointer (some ad11)), (4, .int .i64 ((w64 ((a0.Op.tmod 12) + 12)).tmod 12))]) (by kernel_rfl) ?_
      clear hs; intro a hs
      replace hw : St [] w0 wd43 [own 27 eSapi_Instr (some ad11) 1 [({ v35 with U := decide (((w64 ((a0.Op.tmod 12) + 12)).tmod 12) ≤ 10) } : Sapi_Instr)], own 27 eSapi_Instr (some ad6) 1 [(⟨0, 0, 0, 0, 0, 0, false⟩ : Sapi_Instr)], own 27 eSapi_Instr (some ad2) 1 [a0]] := hw
      refine go_end (by kernel_rfl) ?_
      replace hw := hw.up 2
      replace hw := hw.up 2
      replace hw := hw.up 2
      replace hw := hw.only 3
      exact hJ3 ({ v35 with U := decide (((w64 ((a0.Op.tmod 12) + 12)).tmod 12) ≤ 10) } : Sapi_Instr) _ _ (hs.keep [1, 2, 3, 4] (by kernel_rfl)) hw H
   refine go_seq_k fun K30 hK30 => ?_
   refine go_region ?_
   refine go_pvs 0 2 [1, 2, 3, 4, 28] hs (L' := [(1, .pointer (some ad2)), (2, .pointer (some ad6)), (3, .pointer (some ad11)), (4, .int .i64 ((w64 ((a0.Op.tmod 12) + 12)).tmod 12)), (28, .bool (((w64 ((a0.Op.tmod 12) + 12)).tmod 12) != 0))]) (by kernel_rfl) ?_ rfl
   clear hs; intro a hs
   refine go_end (by kernel_rfl) ?_
   refine hK30 _ _ ?_
   refine go_cond hs (((w64 ((a0.Op.tmod 12) + 12)).tmod 12) != 0) (by kernel_rfl) (fun hc => ?_) (fun hc => ?_)
   ·replace H := ite_f H (bne_iff_ne.1 hc)
    have hb31 := hc
    rw [hb31] at hs
    refine go_region ?_
    refine go_pvs 0 1 [1, 2, 3, 4, 29] hs (L' := [(1, .pointer (some ad2)), (2, .pointer (some ad6)), (3, .pointer (some ad11)), (4, .int .i64 ((w64 ((a0.Op.tmod 12) + 12)).tmod 12)), (29, .pointer (some ((ad2 : Addr).add 3)))]) (by kernel_rfl) ?_ rfl
    clear hs; intro a hs
    refine go_run hs (op := (Op.load 3 (Operand.tmp 29))) (ty := 3) (dst := some 30) (g := none) (by kernel_rfl) (by kernel_rfl) (by kernel_rfl) (x_ld (E := eSapi_Instr) (off := 3) (p := (ad2 : Addr).add 3) (v := .int .i64 a0.B) (Rd.of_own (hw.up 2)) (one_ok a0).1 (one_ok a0).2 (by kernel_rfl) (one_off _ _ _) (by kernel_rfl) (by kernel_rfl)) [1, 2, 3, 4, 30] (L' := [(1, .pointer (some ad2)), (2, .pointer (some ad6)), (3, .pointer (some ad11)), (4, .int .i64 ((w64 ((a0.Op.tmod 12) + 12)).tmod 12)), (30, .int .i64 a0.B)]) (by kernel_rfl) ?_
    clear hs; intro a hs
    refine go_pvs 2 4 [1, 2, 3, 4, 31, 32] hs (L' := [(1, .pointer (some ad2)), (2, .pointer (some ad6)), (3, .pointer (some ad11)), (4, .int .i64 ((w64 ((a0.Op.tmod 12) + 12)).tmod 12)), (31, .int .i64 (band .i64 a0.B 15)), (32, .pointer (some ((ad11 : Addr).add 3)))]) (by kernel_rfl) ?_ rfl
    clear hs; intro a hs
    obtain ⟨wd32, hx33, hw⟩ := x_put (P := Try.prog) (ty := 0) (t := 3) (x := (Operand.tmp 32)) (y := (Operand.tmp 31)) (off := 3) (p := (ad11 : Addr).add 3) (v := .int .i64 (band .i64 a0.B 15)) (vs := [.int .i64 (band .i64 a0.B 15)]) (i := 0) (e' := (({ ({ (⟨w64 (1 + ((w64 ((a0.Kind.tmod 7) + 7)).tmod 7)), 0, band .i64 a0.A 15, 0, 0, 0, false⟩ : Sapi_Instr) with Op := (w64 ((a0.Op.tmod 12) + 12)).tmod 12 } : Sapi_Instr) with B := band .i64 a0.B 15 } : Sapi_Instr) : Sapi_Instr)) hs hw rfl (one_ok ({ (⟨w64 (1 + ((w64 ((a0.Kind.tmod 7) + 7)).tmod 7)), 0, band .i64 a0.A 15, 0, 0, 0, false⟩ : Sapi_Instr) with Op := (w64 ((a0.Op.tmod 12) + 12)).tmod 12 } : Sapi_Instr)).1 (one_ok ({ (⟨w64 (1 + ((w64 ((a0.Kind.tmod 7) + 7)).tmod 7)), 0, band .i64 a0.A 15, 0, 0, 0, false⟩ : Sapi_Instr) with Op := (w64 ((a0.Op.tmod 12) + 12)).tmod 12 } : Sapi_Instr)).2 (by kernel_rfl) (one_off _ _ _) (by kernel_rfl) rfl (by kernel_rfl) (Nat.le_of_ble_eq_true rfl) (by simp [Value.oneCell']) (by kernel_rfl)
    refine go_unit hs (op := (Op.store 3 (Operand.tmp 32) (Operand.tmp 31))) (ty := 0) (dst := none) (g := none) (by kernel_rfl) (by kernel_rfl) (by kernel_rfl) hx33 [1, 2, 3, 4] (L' := [(1, .pointer (some ad2)), (2, .pointer (some ad6)), (3, .pointer (some ad11)), (4, .int .i64 ((w64 ((a0.Op.tmod 12) + 12)).tmod 12))]) (by kernel_rfl) ?_
    clear hs; intro a hs
    replace hw : St [] w0 wd32 [own 27 eSapi_Instr (some ad11) 1 [({ ({ (⟨w64 (1 + ((w64 ((a0.Kind.tmod 7) + 7)).tmod 7)), 0, band .i64 a0.A 15, 0, 0, 0, false⟩ : Sapi_Instr) with Op := (w64 ((a0.Op.tmod 12) + 12)).tmod 12 } : Sapi_Instr) with B := band .i64 a0.B 15 } : Sapi_Instr)], own 27 eSapi_Instr (some ad6) 1 [(⟨0, 0, 0, 0, 0, 0, false⟩ : Sapi_Instr)], own 27 eSapi_Instr (some ad2) 1 [a0]] := hw
    refine go_end (by kernel_rfl) ?_
    replace hw := hw.up 2
    replace hw := hw.up 2
    replace hw := hw.up 2
    replace hw := hw.only 3
    exact hJ2 ({ ({ (⟨w64 (1 + ((w64 ((a0.Kind.tmod 7) + 7)).tmod 7)), 0, band .i64 a0.A 15, 0, 0, 0, false⟩ : Sapi_Instr) with Op := (w64 ((a0.Op.tmod 12) + 12)).tmod 12 } : Sapi_Instr) with B := band .i64 a0.B 15 } : Sapi_Instr) _ _ (hs.keep [1, 2, 3, 4] (by kernel_rfl)) hw H
   ·replace H := ite_t H (bne_eq_false_iff_eq.1 hc)
    have hb34 := hc
    rw [hb34] at hs
    refine wp_skip ?_
    replace hw := hw.up 2
    replace hw := hw.up 2
    replace hw := hw.up 2
    replace hw := hw.only 3
    exact hJ2 ({ (⟨w64 (1 + ((w64 ((a0.Kind.tmod 7) + 7)).tmod 7)), 0, band .i64 a0.A 15, 0, 0, 0, false⟩ : Sapi_Instr) with Op := (w64 ((a0.Op.tmod 12) + 12)).tmod 12 } : Sapi_Instr) _ _ (hs.keep [1, 2, 3, 4] (by kernel_rfl)) hw H
  ·replace H := ite_f H (ff hc)
   have hb69 := hc
   rw [hb69] at hs
   refine go_seq_k fun K70 hK70 => ?_
   refine go_region ?_
   refine go_pvs 0 2 [1, 2, 3, 21, 68] hs (L' := [(1, .pointer (some ad2)), (2, .pointer (some ad6)), (3, .pointer (some ad11)), (21, .int .i64 (w64 (1 + ((w64 ((a0.Kind.tmod 7) + 7)).tmod 7)))), (68, .bool ((w64 (1 + ((w64 ((a0.Kind.tmod 7) + 7)).tmod 7))) == 5))]) (by kernel_rfl) ?_ rfl
   clear hs; intro a hs
   refine go_end (by kernel_rfl) ?_
   refine hK70 _ _ ?_
   refine go_cond hs ((w64 (1 + ((w64 ((a0.Kind.tmod 7) + 7)).tmod 7))) == 5) (by kernel_rfl) (fun hc => ?_) (fun hc => ?_)
   ·replace H := ite_t H (beq_iff_eq.1 hc)
    have hb71 := hc
    rw [hb71] at hs
    refine go_seq_k fun K72 hK72 => ?_
    refine go_region ?_
    refine go_pvs 0 1 [1, 2, 3, 70] hs (L' := [(1, .pointer (some ad2)), (2, .pointer (some ad6)), (3, .pointer (some ad11)), (70, .pointer (some ((ad2 : Addr).add 1)))]) (by kernel_rfl) ?_ rfl
    clear hs; intro a hs
    refine go_run hs (op := (Op.load 3 (Operand.tmp 70))) (ty := 3) (dst := some 71) (g := none) (by kernel_rfl) (by kernel_rfl) (by kernel_rfl) (x_ld (E := eSapi_Instr) (off := 1) (p := (ad2 : Addr).add 1) (v := .int .i64 a0.Op) (Rd.of_own (hw.up 2)) (one_ok a0).1 (one_ok a0).2 (by kernel_rfl) (one_off _ _ _) (by kernel_rfl) (by kernel_rfl)) [1, 2, 3, 71] (L' := [(1, .pointer (some ad2)), (2, .pointer (some ad6)), (3, .pointer (some ad11)), (71, .int .i64 a0.Op)]) (by kernel_rfl) ?_
    clear hs; intro a hs
    refine go_pvs 2 4 [1, 2, 3, 72, 73] hs (L' := [(1, .pointer (some ad2)), (2, .pointer (some ad6)), (3, .pointer (some ad11)), (72, .int .i64 (band .i64 a0.Op 3)), (73, .pointer (some ((ad11 : Addr).add 1)))]) (by kernel_rfl) ?_ rfl
    clear hs; intro a hs
    obtain ⟨wd73, hx74, hw⟩ := x_put (P := Try.prog) (ty := 0) (t := 3) (x := (Operand.tmp 73)) (y := (Operand.tmp 72)) (off := 1) (p := (ad11 : Addr).add 1) (v := .int .i64 (band .i64 a0.Op 3)) (vs := [.int .i64 (band .i64 a0.Op 3)]) (i := 0) (e' := (({ (⟨w64 (1 + ((w64 ((a0.Kind.tmod 7) + 7)).tmod 7)), 0, band .i64 a0.A 15, 0, 0, 0, false⟩ : Sapi_Instr) with Op := band .i64 a0.Op 3 } : Sapi_Instr) : Sapi_Instr)) hs hw rfl (one_ok (⟨w64 (1 + ((w64 ((a0.Kind.tmod 7) + 7)).tmod 7)), 0, band .i64 a0.A 15, 0, 0, 0, false⟩ : Sapi_Instr)).1 (one_ok (⟨w64 (1 + ((w64 ((a0.Kind.tmod 7) + 7)).tmod 7)), 0, band .i64 a0.A 15, 0, 0, 0, false⟩ : Sapi_Instr)).2 (by kernel_rfl) (one_off _ _ _) (by kernel_rfl) rfl (by kernel_rfl) (Nat.le_of_ble_eq_true rfl) (by simp [Value.oneCell']) (by kernel_rfl)
    refine go_unit hs (op := (Op.store 3 (Operand.tmp 73) (Operand.tmp 72))) (ty := 0) (dst := none) (g := none) (by kernel_rfl) (by kernel_rfl) (by kernel_rfl) hx74 [1, 2, 3] (L' := [(1, .pointer (some ad2)), (2, .pointer (some ad6)), (3, .pointer (some ad11))]) (by kernel_rfl) ?_
    clear hs; intro a hs
    replace hw : St [] w0 wd73 [own 27 eSapi_Instr (some ad11) 1 [({ (⟨w64 (1 + ((w64 ((a0.Kind.tmod 7) + 7)).tmod 7)), 0, band .i64 a0.A 15, 0, 0, 0, false⟩ : Sapi_Instr) with Op := band .i64 a0.Op 3 } : Sapi_Instr)], own 27 eSapi_Instr (some ad6) 1 [(⟨0, 0, 0, 0, 0, 0, false⟩ : Sapi_Instr)], own 27 eSapi_Instr (some ad2) 1 [a0]] := hw
    refine go_end (by kernel_rfl) ?_
    refine hK72 _ _ ?_
    refine go_seq_k fun K75 hK75 => ?_
    refine go_region ?_
    refine go_pvs 0 1 [1, 2, 3, 74] hs (L' := [(1, .pointer (some ad2)), (2, .pointer (some ad6)), (3, .pointer (some ad11)), (74, .pointer (some ((ad2 : Addr).add 3)))]) (by kernel_rfl) ?_ rfl
    clear hs; intro a hs
    refine go_run hs (op := (Op.load 3 (Operand.tmp 74))) (ty := 3) (dst := some 75) (g := none) (by kernel_rfl) (by kernel_rfl) (by kernel_rfl) (x_ld (E := eSapi_Instr) (off := 3) (p := (ad2 : Addr).add 3) (v := .int .i64 a0.B) (Rd.of_own (hw.up 2)) (one_ok a0).1 (one_ok a0).2 (by kernel_rfl) (one_off _ _ _) (by kernel_rfl) (by kernel_rfl)) [1, 2, 3, 75] (L' := [(1, .pointer (some ad2)), (2, .pointer (some ad6)), (3, .pointer (some ad11)), (75, .int .i64 a0.B)]) (by kernel_rfl) ?_
    clear hs; intro a hs
    refine go_pvs 2 4 [1, 2, 3, 76, 77] hs (L' := [(1, .pointer (some ad2)), (2, .pointer (some ad6)), (3, .pointer (some ad11)), (76, .int .i64 (band .i64 a0.B 15)), (77, .pointer (some ((ad11 : Addr).add 3)))]) (by kernel_rfl) ?_ rfl
    clear hs; intro a hs
    obtain ⟨wd76, hx77, hw⟩ := x_put (P := Try.prog) (ty := 0) (t := 3) (x := (Operand.tmp 77)) (y := (Operand.tmp 76)) (off := 3) (p := (ad11 : Addr).add 3) (v := .int .i64 (band .i64 a0.B 15)) (vs := [.int .i64 (band .i64 a0.B 15)]) (i := 0) (e' := (({ ({ (⟨w64 (1 + ((w64 ((a0.Kind.tmod 7) + 7)).tmod 7)), 0, band .i64 a0.A 15, 0, 0, 0, false⟩ : Sapi_Instr) with Op := band .i64 a0.Op 3 } : Sapi_Instr) with B := band .i64 a0.B 15 } : Sapi_Instr) : Sapi_Instr)) hs hw rfl (one_ok ({ (⟨w64 (1 + ((w64 ((a0.Kind.tmod 7) + 7)).tmod 7)), 0, band .i64 a0.A 15, 0, 0, 0, false⟩ : Sapi_Instr) with Op := band .i64 a0.Op 3 } : Sapi_Instr)).1 (one_ok ({ (⟨w64 (1 + ((w64 ((a0.Kind.tmod 7) + 7)).tmod 7)), 0, band .i64 a0.A 15, 0, 0, 0, false⟩ : Sapi_Instr) with Op := band .i64 a0.Op 3 } : Sapi_Instr)).2 (by kernel_rfl) (one_off _ _ _) (by kernel_rfl) rfl (by kernel_rfl) (Nat.le_of_ble_eq_true rfl) (by simp [Value.oneCell']) (by kernel_rfl)
    refine go_unit hs (op := (Op.store 3 (Operand.tmp 77) (Operand.tmp 76))) (ty := 0) (dst := none) (g := none) (by kernel_rfl) (by kernel_rfl) (by kernel_rfl) hx77 [1, 2, 3] (L' := [(1, .pointer (some ad2)), (2, .pointer (some ad6)), (3, .pointer (some ad11))]) (by kernel_rfl) ?_
    clear hs; intro a hs
    replace hw : St [] w0 wd76 [own 27 eSapi_Instr (some ad11) 1 [({ ({ (⟨w64 (1 + ((w64 ((a0.Kind.tmod 7) + 7)).tmod 7)), 0, band .i64 a0.A 15, 0, 0, 0, false⟩ : Sapi_Instr) with Op := band .i64 a0.Op 3 } : Sapi_Instr) with B := band .i64 a0.B 15 } : Sapi_Instr)], own 27 eSapi_Instr (some ad6) 1 [(⟨0, 0, 0, 0, 0, 0, false⟩ : Sapi_Instr)], own 27 eSapi_Instr (some ad2) 1 [a0]] := hw
    refine go_end (by kernel_rfl) ?_
    refine hK75 _ _ ?_
    refine go_region ?_
    refine go_pvs 0 1 [2, 3, 78] hs (L' := [(2, .pointer (some ad6)), (3, .pointer (some ad11)), (78, .pointer (some ((ad2 : Addr).add 5)))]) (by kernel_rfl) ?_ rfl
    clear hs; intro a hs
    refine go_run hs (op := (Op.load 3 (Operand.tmp 78))) (ty := 3) (dst := some 79) (g := none) (by kernel_rfl) (by kernel_rfl) (by kernel_rfl) (x_ld (E := eSapi_Instr) (off := 5) (p := (ad2 : Addr).add 5) (v := .int .i64 a0.Imm) (Rd.of_own (hw.up 2)) (one_ok a0).1 (one_ok a0).2 (by kernel_rfl) (one_off _ _ _) (by kernel_rfl) (by kernel_rfl)) [2, 3, 79] (L' := [(2, .pointer (some ad6)), (3, .pointer (some ad11)), (79, .int .i64 a0.Imm)]) (by kernel_rfl) ?_
    clear hs; intro a hs
    refine go_pvs 2 5 [2, 3, 81, 82] hs (L' := [(2, .pointer (some ad6)), (3, .pointer (some ad11)), (81, .int .i64 (w64 ((band .i64 a0.Imm 1048575) - 524288))), (82, .pointer (some ((ad11 : Addr).add 5)))]) (by kernel_rfl) ?_ rfl
    clear hs; intro a hs
    obtain ⟨wd78, hx79, hw⟩ := x_put (P := Try.prog) (ty := 0) (t := 3) (x := (Operand.tmp 82)) (y := (Operand.tmp 81)) (off := 5) (p := (ad11 : Addr).add 5) (v := .int .i64 (w64 ((band .i64 a0.Imm 1048575) - 524288))) (vs := [.int .i64 (w64 ((band .i64 a0.Imm 1048575) - 524288))]) (i := 0) (e' := (({ ({ ({ (⟨w64 (1 + ((w64 ((a0.Kind.tmod 7) + 7)).tmod 7)), 0, band .i64 a0.A 15, 0, 0, 0, false⟩ : Sapi_Instr) with Op := band .i64 a0.Op 3 } : Sapi_Instr) with B := band .i64 a0.B 15 } : Sapi_Instr) with Imm := w64 ((band .i64 a0.Imm 1048575) - 524288) } : Sapi_Instr) : Sapi_Instr)) hs hw rfl (one_ok ({ ({ (⟨w64 (1 + ((w64 ((a0.Kind.tmod 7) + 7)).tmod 7)), 0, band .i64 a0.A 15, 0, 0, 0, false⟩ : Sapi_Instr) with Op := band .i64 a0.Op 3 } : Sapi_Instr) with B := band .i64 a0.B 15 } : Sapi_Instr)).1 (one_ok ({ ({ (⟨w64 (1 + ((w64 ((a0.Kind.tmod 7) + 7)).tmod 7)), 0, band .i64 a0.A 15, 0, 0, 0, false⟩ : Sapi_Instr) with Op := band .i64 a0.Op 3 } : Sapi_Instr) with B := band .i64 a0.B 15 } : Sapi_Instr)).2 (by kernel_rfl) (one_off _ _ _) (by kernel_rfl) rfl (by kernel_rfl) (Nat.le_of_ble_eq_true rfl) (by simp [Value.oneCell']) (by kernel_rfl)
    refine go_unit hs (op := (Op.store 3 (Operand.tmp 82) (Operand.tmp 81))) (ty := 0) (dst := none) (g := none) (by kernel_rfl) (by kernel_rfl) (by kernel_rfl) hx79 [2, 3] (L' := [(2, .pointer (some ad6)), (3, .pointer (some ad11))]) (by kernel_rfl) ?_
    clear hs; intro a hs
    replace hw : St [] w0 wd78 [own 27 eSapi_Instr (some ad11) 1 [({ ({ ({ (⟨w64 (1 + ((w64 ((a0.Kind.tmod 7) + 7)).tmod 7)), 0, band .i64 a0.A 15, 0, 0, 0, false⟩ : Sapi_Instr) with Op := band .i64 a0.Op 3 } : Sapi_Instr) with B := band .i64 a0.B 15 } : Sapi_Instr) with Imm := w64 ((band .i64 a0.Imm 1048575) - 524288) } : Sapi_Instr)], own 27 eSapi_Instr (some ad6) 1 [(⟨0, 0, 0, 0, 0, 0, false⟩ : Sapi_Instr)], own 27 eSapi_Instr (some ad2) 1 [a0]] := hw
    refine go_end (by kernel_rfl) ?_
    refine ib_norm ?_
    replace hw := hw.up 2
    replace hw := hw.up 2
    replace hw := hw.up 2
    replace hw := hw.only 3
    exact hJ5 ({ ({ ({ (⟨w64 (1 + ((w64 ((a0.Kind.tmod 7) + 7)).tmod 7)), 0, band .i64 a0.A 15, 0, 0, 0, false⟩ : Sapi_Instr) with Op := band .i64 a0.Op 3 } : Sapi_Instr) with B := band .i64 a0.B 15 } : Sapi_Instr) with Imm := w64 ((band .i64 a0.Imm 1048575) - 524288) } : Sapi_Instr) _ _ (hs.keep [2, 3] (by kernel_rfl)) hw H
   ·replace H := ite_f H (beq_eq_false_iff_ne.1 hc)
    have hb80 := hc
    rw [hb80] at hs
    refine go_seq_k fun K81 hK81 => ?_
    refine go_region ?_
    refine go_pvs 0 2 [1, 2, 3, 21, 83] hs (L' := [(1, .pointer (some ad2)), (2, .pointer (some ad6)), (3, .pointer (some ad11)), (21, .int .i64 (w64 (1 + ((w64 ((a0.Kind.tmod 7) + 7)).tmod 7)))), (83, .bool ((w64 (1 + ((w64 ((a0.Kind.tmod 7) + 7)).tmod 7))) == 6))]) (by kernel_rfl) ?_ rfl
    clear hs; intro a hs
    refine go_end (by kernel_rfl) ?_
    refine hK81 _ _ ?_
    refine go_cond hs ((w64 (1 + ((w64 ((a0.Kind.tmod 7) + 7)).tmod 7))) == 6) (by kernel_rfl) (fun hc => ?_) (fun hc => ?_)
    ·replace H := ite_t H (beq_iff_eq.1 hc)
     have hb82 := hc
     rw [hb82] at hs
     refine go_region ?_
     refine go_pvs 0 1 [1, 2, 3, 85] hs (L' := [(1, .pointer (some ad2)), (2, .pointer (some ad6)), (3, .pointer (some ad11)), (85, .pointer (some ((ad11 : Addr).add 0)))]) (by kernel_rfl) ?_ rfl
     clear hs; intro a hs
     refine go_run hs (op := (Op.load 3 (Operand.tmp 85))) (ty := 3) (dst := some 86) (g := none) (by kernel_rfl) (by kernel_rfl) (by kernel_rfl) (x_ld (E := eSapi_Instr) (off := 0) (p := (ad11 : Addr).add 0) (v := .int .i64 (w64 (1 + ((w64 ((a0.Kind.tmod 7) + 7)).tmod 7)))) (Rd.of_own (hw.up 0)) (one_ok (⟨w64 (1 + ((w64 ((a0.Kind.tmod 7) + 7)).tmod 7)), 0, band .i64 a0.A 15, 0, 0, 0, false⟩ : Sapi_Instr)).1 (one_ok (⟨w64 (1 + ((w64 ((a0.Kind.tmod 7) + 7)).tmod 7)), 0, band .i64 a0.A 15, 0, 0, 0, false⟩ : Sapi_Instr)).2 (by kernel_rfl) (one_off _ _ _) (by kernel_rfl) (by kernel_rfl)) [1, 2, 3, 86] (L' := [(1, .pointer (some ad2)), (2, .pointer (some ad6)), (3, .pointer (some ad11)), (86, .int .i64 (w64 (1 + ((w64 ((a0.Kind.tmod 7) + 7)).tmod 7))))]) (by kernel_rfl) ?_
     clear hs; intro a hs
     refine go_pvs 2 3 [1, 2, 3, 86, 87] hs (L' := [(1, .pointer (some ad2)), (2, .pointer (some ad6)), (3, .pointer (some ad11)), (86, .int .i64 (w64 (1 + ((w64 ((a0.Kind.tmod 7) + 7)).tmod 7)))), (87, .pointer (some ((ad2 : Addr).add 1)))]) (by kernel_rfl) ?_ rfl
     clear hs; intro a hs
     refine go_run hs (op := (Op.load 3 (Operand.tmp 87))) (ty := 3) (dst := some 88) (g := none) (by kernel_rfl) (by kernel_rfl) (by kernel_rfl) (x_ld (E := eSapi_Instr) (off := 1) (p := (ad2 : Addr).add 1) (v := .int .i64 a0.Op) (Rd.of_own (hw.up 2)) (one_ok a0).1 (one_ok a0).2 (by kernel_rfl) (one_off _ _ _) (by kernel_rfl) (by kernel_rfl)) [1, 2, 3, 86, 88] (L' := [(1, .pointer (some ad2)), (2, .pointer (some ad6)), (3, .pointer (some ad11)), (86, .int .i64 (w64 (1 + ((w64 ((a0.Kind.tmod 7) + 7)).tmod 7)))), (88, .int .i64 a0.Op)]) (by kernel_rfl) ?_
     clear hs; intro a hs
     refine go_pvs 4 6 [1, 2, 3, 86, 89, 90] hs (L' := [(1, .pointer (some ad2)), (2, .pointer (some ad6)), (3, .pointer (some ad11)), (86, .int .i64 (w64 (1 + ((w64 ((a0.Kind.tmod 7) + 7)).tmod 7)))), (89, .int .i64 (band .i64 a0.Op 15)), (90, .pointer (some ((ad2 : Addr).add 4)))]) (by kernel_rfl) ?_ rfl
     clear hs; intro a hs
     refine go_run hs (op := (Op.load 3 (Operand.tmp 90))) (ty := 3) (dst := some 91) (g := none) (by kernel_rfl) (by kernel_rfl) (by kernel_rfl) (x_ld (E := eSapi_Instr) (off := 4) (p := (ad2 : Addr).add 4) (v := .int .i64 a0.C) (Rd.of_own (hw.up 2)) (one_ok a0).1 (one_ok a0).2 (by kernel_rfl) (one_off _ _ _) (by kernel_rfl) (by kernel_rfl)) [1, 2, 3, 86, 89, 91] (L' := [(1, .pointer (some ad2)), (2, .pointer (some ad6)), (3, .pointer (some ad11)), (86, .int .i64 (w64 (1 + ((w64 ((a0.Kind.tmod 7) + 7)).tmod 7)))), (89, .int .i64 (band .i64 a0.Op 15)), (91, .int .i64 a0.C)]) (by kernel_rfl) ?_
     clear hs; intro a hs
     refine go_pvs 7 9 [2, 3, 86, 89, 92, 93] hs (L' := [(2, .pointer (some ad6)), (3, .pointer (some ad11)), (86, .int .i64 (w64 (1 + ((w64 ((a0.Kind.tmod 7) + 7)).tmod 7)))), (89, .int .i64 (band .i64 a0.Op 15)), (92, .int .i64 (band .i64 a0.C 15)), (93, .pointer (some ((ad2 : Addr).add 6)))]) (by kernel_rfl) ?_ rfl
     clear hs; intro a hs
     refine go_run hs (op := (Op.load 4 (Operand.tmp 93))) (ty := 4) (dst := some 94) (g := none) (by kernel_rfl) (by kernel_rfl) (by kernel_rfl) (x_ld (E := eSapi_Instr) (off := 6) (p := (ad2 : Addr).add 6) (v := .bool a0.U) (Rd.of_own (hw.up 2)) (one_ok a0).1 (one_ok a0).2 (by kernel_rfl) (one_off _ _ _) (by kernel_rfl) (by kernel_rfl)) [2, 3, 86, 89, 92, 94] (L' := [(2, .pointer (some ad6)), (3, .pointer (some ad11)), (86, .int .i64 (w64 (1 + ((w64 ((a0.Kind.tmod 7) + 7)).tmod 7)))), (89, .int .i64 (band .i64 a0.Op 15)), (92, .int .i64 (band .i64 a0.C 15)), (94, .bool a0.U)]) (by kernel_rfl) ?_
     clear hs; intro a hs
     refine go_pvs 10 11 [2, 3, 95] hs (L' := [(2, .pointer (some ad6)), (3, .pointer (some ad11)), (95, .agg (eSapi_Instr.enc (⟨w64 (1 + ((w64 ((a0.Kind.tmod 7) + 7)).tmod 7)), band .i64 a0.Op 15, 0, 0, band .i64 a0.C 15, 0, a0.U⟩ : Sapi_Instr)).toArray)]) (by kernel_rfl) ?_ rfl
     clear hs; intro a hs
     obtain ⟨wd83, hx84, hw⟩ := x_put (P := Try.prog) (ty := 0) (t := 27) (x := (Operand.tmp 3)) (y := (Operand.tmp 95)) (off := 0) (p := ad11) (v := .agg (eSapi_Instr.enc (⟨w64 (1 + ((w64 ((a0.Kind.tmod 7) + 7)).tmod 7)), band .i64 a0.Op 15, 0, 0, band .i64 a0.C 15, 0, a0.U⟩ : Sapi_Instr)).toArray) (vs := (eSapi_Instr.enc (⟨w64 (1 + ((w64 ((a0.Kind.tmod 7) + 7)).tmod 7)), band .i64 a0.Op 15, 0, 0, band .i64 a0.C 15, 0, a0.U⟩ : Sapi_Instr))) (i := 0) (e' := ((⟨w64 (1 + ((w64 ((a0.Kind.tmod 7) + 7)).tmod 7)), band .i64 a0.Op 15, 0, 0, band .i64 a0.C 15, 0, a0.U⟩ : Sapi_Instr) : Sapi_Instr)) hs hw rfl (one_ok (⟨w64 (1 + ((w64 ((a0.Kind.tmod 7) + 7)).tmod 7)), 0, band .i64 a0.A 15, 0, 0, 0, false⟩ : Sapi_Instr)).1 (one_ok (⟨w64 (1 + ((w64 ((a0.Kind.tmod 7) + 7)).tmod 7)), 0, band .i64 a0.A 15, 0, 0, 0, false⟩ : Sapi_Instr)).2 (by kernel_rfl) (one_at _ _) (by kernel_rfl) rfl (by kernel_rfl) (Nat.le_of_ble_eq_true rfl) (eSapi_Instr.one _) (by kernel_rfl)
     refine go_unit hs (op := (Op.store 27 (Operand.tmp 3) (Operand.tmp 95))) (ty := 0) (dst := none) (g := none) (by kernel_rfl) (by kernel_rfl) (by kernel_rfl) hx84 [2, 3] (L' := [(2, .pointer (some ad6)), (3, .pointer (some ad11))]) (by kernel_rfl) ?_
     clear hs; intro a hs
     replace hw : St [] w0 wd83 [own 27 eSapi_Instr (some ad11) 1 [(⟨w64 (1 + ((w64 ((a0.Kind.tmod 7) + 7)).tmod 7)), band .i64 a0.Op 15, 0, 0, band .i64 a0.C 15, 0, a0.U⟩ : Sapi_Instr)], own 27 eSapi_Instr (some ad6) 1 [(⟨0, 0, 0, 0, 0, 0, false⟩ : Sapi_Instr)], own 27 eSapi_Instr (some ad2) 1 [a0]] := hw
     refine go_end (by kernel_rfl) ?_
     refine ib_norm ?_
     replace hw := hw.up 2
     replace hw := hw.up 2
     replace hw := hw.up 2
     replace hw := hw.only 3
     exact hJ5 (⟨w64 (1 + ((w64 ((a0.Kind.tmod 7) + 7)).tmod 7)), band .i64 a0.Op 15, 0, 0, band .i64 a0.C 15, 0, a0.U⟩ : Sapi_Instr) _ _ (hs.keep [2, 3] (by kernel_rfl)) hw H
    ·replace H := ite_f H (beq_eq_false_iff_ne.1 hc)
     have hb85 := hc
     rw [hb85] at hs
     refine go_seq_k fun K86 hK86 => ?_
     refine go_region ?_
     refine go_pvs 0 2 [1, 2, 3, 96] hs (L' := [(1, .pointer (some ad2)), (2, .pointer (some ad6)), (3, .pointer (some ad11)), (96, .bool ((w64 (1 + ((w64 ((a0.Kind.tmod 7) + 7)).tmod 7))) == 7))]) (by kernel_rfl) ?_ rfl
     clear hs; intro a hs
     refine go_end (by kernel_rfl) ?_
     refine hK86 _ _ ?_
     refine go_cond hs ((w64 (1 + ((w64 ((a0.Kind.tmod 7) + 7)).tmod 7))) == 7) (by kernel_rfl) (fun hc => ?_) (fun hc => ?_)
     ·replace H := ite_t H (beq_iff_eq.1 hc)
      have hb87 := hc
      rw [hb87] at hs
      refine go_region ?_
      refine go_pvs 0 1 [1, 2, 3, 98] hs (L' := [(1, .pointer (some ad2)), (2, .pointer (some ad6)), (3, .pointer (some ad11)), (98, .pointer (some ((ad11 : Addr).add 0)))]) (by kernel_rfl) ?_ rfl
      clear hs; intro a hs
      refine go_run hs (op := (Op.load 3 (Operand.tmp 98))) (ty := 3) (dst := some 99) (g := none) (by kernel_rfl) (by kernel_rfl) (by kernel_rfl) (x_ld (E := eSapi_Instr) (off := 0) (p := (ad11 : Addr).add 0) (v := .int .i64 (w64 (1 + ((w64 ((a0.Kind.tmod 7) + 7)).tmod 7)))) (Rd.of_own (hw.up 0)) (one_ok (⟨w64 (1 + ((w64 ((a0.Kind.tmod 7) + 7)).tmod 7)), 0, band .i64 a0.A 15, 0, 0, 0, false⟩ : Sapi_Instr)).1 (one_ok (⟨w64 (1 + ((w64 ((a0.Kind.tmod 7) + 7)).tmod 7)), 0, band .i64 a0.A 15, 0, 0, 0, false⟩ : Sapi_Instr)).2 (by kernel_rfl) (one_off _ _ _) (by kernel_rfl) (by kernel_rfl)) [1, 2, 3, 99] (L' := [(1, .pointer (some ad2)), (2, .pointer (some ad6)), (3, .pointer (some ad11)), (99, .int .i64 (w64 (1 + ((w64 ((a0.Kind.tmod 7) + 7)).tmod 7))))]) (by kernel_rfl) ?_
      clear hs; intro a hs
      refine go_pvs 2 3 [1, 2, 3, 99, 100] hs (L' := [(1, .pointer (some ad2)), (2, .pointer (some ad6)), (3, .pointer (some ad11)), (99, .int .i64 (w64 (1 + ((w64 ((a0.Kind.tmod 7) + 7)).tmod 7)))), (100, .pointer (some ((ad2 : Addr).add 1)))]) (by kernel_rfl) ?_ rfl
      clear hs; intro a hs
      refine go_run hs (op := (Op.load 3 (Operand.tmp 100))) (ty := 3) (dst := some 101) (g := none) (by kernel_rfl) (by kernel_rfl) (by kernel_rfl) (x_ld (E := eSapi_Instr) (off := 1) (p := (ad2 : Addr).add 1) (v := .int .i64 a0.Op) (Rd.of_own (hw.up 2)) (one_ok a0).1 (one_ok a0).2 (by kernel_rfl) (one_off _ _ _) (by kernel_rfl) (by kernel_rfl)) [1, 2, 3, 99, 101] (L' := [(1, .pointer (some ad2)), (2, .pointer (some ad6)), (3, .pointer (some ad11)), (99, .int .i64 (w64 (1 + ((w64 ((a0.Kind.tmod 7) + 7)).tmod 7)))), (101, .int .i64 a0.Op)]) (by kernel_rfl) ?_
      clear hs; intro a hs
      refine go_pvs 4 6 [1, 2, 3, 99, 102, 103] hs (L' := [(1, .pointer (some ad2)), (2, .pointer (some ad6)), (3, .pointer (some ad11)), (99, .int .i64 (w64 (1 + ((w64 ((a0.Kind.tmod 7) + 7)).tmod 7)))), (102, .int .i64 (band .i64 a0.Op 15)), (103, .pointer (some ((ad2 : Addr).add 5)))]) (by kernel_rfl) ?_ rfl
      clear hs; intro a hs
      refine go_run hs (op := (Op.load 3 (Operand.tmp 103))) (ty := 3) (dst := some 104) (g := none) (by kernel_rfl) (by kernel_rfl) (by kernel_rfl) (x_ld (E := eSapi_Instr) (off := 5) (p := (ad2 : Addr).add 5) (v := .int .i64 a0.Imm) (Rd.of_own (hw.up 2)) (one_ok a0).1 (one_ok a0).2 (by kernel_rfl) (one_off _ _ _) (by kernel_rfl) (by kernel_rfl)) [1, 2, 3, 99, 102, 104] (L' := [(1, .pointer (some ad2)), (2, .pointer (some ad6)), (3, .pointer (some ad11)), (99, .int .i64 (w64 (1 + ((w64 ((a0.Kind.tmod 7) + 7)).tmod 7)))), (102, .int .i64 (band .i64 a0.Op 15)), (104, .int .i64 a0.Imm)]) (by kernel_rfl) ?_
      clear hs; intro a hs
      refine go_pvs 7 10 [2, 3, 99, 102, 106, 107] hs (L' := [(2, .pointer (some ad6)), (3, .pointer (some ad11)), (99, .int .i64 (w64 (1 + ((w64 ((a0.Kind.tmod 7) + 7)).tmod 7)))), (102, .int .i64 (band .i64 a0.Op 15)), (106, .int .i64 (w64 ((band .i64 a0.Imm 16777215) - 8388608))), (107, .pointer (some ((ad2 : Addr).add 6)))]) (by kernel_rfl) ?_ rfl
      clear hs; intro a hs
      refine go_run hs (op := (Op.load 4 (Operand.tmp 107))) (ty := 4) (dst := some 108) (g := none) (by kernel_rfl) (by kernel_rfl) (by kernel_rfl) (x_ld (E := eSapi_Instr) (off := 6) (p := (ad2 : Addr).add 6) (v := .bool a0.U) (Rd.of_own (hw.up 2)) (one_ok a0).1 (one_ok a0).2 (by kernel_rfl) (one_off _ _ _) (by kernel_rfl) (by kernel_rfl)) [2, 3, 99, 102, 106, 108] (L' := [(2, .pointer (some ad6)), (3, .pointer (some ad11)), (99, .int .i64 (w64 (1 + ((w64 ((a0.Kind.tmod 7) + 7)).tmod 7)))), (102, .int .i64 (band .i64 a0.Op 15)), (106, .int .i64 (w64 ((band .i64 a0.Imm 16777215) - 8388608))), (108, .bool a0.U)]) (by kernel_rfl) ?_
      clear hs; intro a hs
      refine go_pvs 11 12 [2, 3, 109] hs (L' := [(2, .pointer (some ad6)), (3, .pointer (some ad11)), (109, .agg (eSapi_Instr.enc (⟨w64 (1 + ((w64 ((a0.Kind.tmod 7) + 7)).tmod 7)), band .i64 a0.Op 15, 0, 0, 0, w64 ((band .i64 a0.Imm 16777215) - 8388608), a0.U⟩ : Sapi_Instr)).toArray)]) (by kernel_rfl) ?_ rfl
      clear hs; intro a hs
      obtain ⟨wd88, hx89, hw⟩ := x_put (P := Try.prog) (ty := 0) (t := 27) (x := (Operand.tmp 3)) (y := (Operand.tmp 109)) (off := 0) (p := ad11) (v := .agg (eSapi_Instr.enc (⟨w64 (1 + ((w64 ((a0.Kind.tmod 7) + 7)).tmod 7)), band .i64 a0.Op 15, 0, 0, 0, w64 ((band .i64 a0.Imm 16777215) - 8388608), a0.U⟩ : Sapi_Instr)).toArray) (vs := (eSapi_Instr.enc (⟨w64 (1 + ((w64 ((a0.Kind.tmod 7) + 7)).tmod 7)), band .i64 a0.Op 15, 0, 0, 0, w64 ((band .i64 a0.Imm 16777215) - 8388608), a0.U⟩ : Sapi_Instr))) (i := 0) (e' := ((⟨w64 (1 + ((w64 ((a0.Kind.tmod 7) + 7)).tmod 7)), band .i64 a0.Op 15, 0, 0, 0, w64 ((band .i64 a0.Imm 16777215) - 8388608), a0.U⟩ : Sapi_Instr) : Sapi_Instr)) hs hw rfl (one_ok (⟨w64 (1 + ((w64 ((a0.Kind.tmod 7) + 7)).tmod 7)), 0, band .i64 a0.A 15, 0, 0, 0, false⟩ : Sapi_Instr)).1 (one_ok (⟨w64 (1 + ((w64 ((a0.Kind.tmod 7) + 7)).tmod 7)), 0, band .i64 a0.A 15, 0, 0, 0, false⟩ : Sapi_Instr)).2 (by kernel_rfl) (one_at _ _) (by kernel_rfl) rfl (by kernel_rfl) (Nat.le_of_ble_eq_true rfl) (eSapi_Instr.one _) (by kernel_rfl)
      refine go_unit hs (op := (Op.store 27 (Operand.tmp 3) (Operand.tmp 109))) (ty := 0) (dst := none) (g := none) (by kernel_rfl) (by kernel_rfl) (by kernel_rfl) hx89 [2, 3] (L' := [(2, .pointer (some ad6)), (3, .pointer (some ad11))]) (by kernel_rfl) ?_
      clear hs; intro a hs
      replace hw : St [] w0 wd88 [own 27 eSapi_Instr (some ad11) 1 [(⟨w64 (1 + ((w64 ((a0.Kind.tmod 7) + 7)).tmod 7)), band .i64 a0.Op 15, 0, 0, 0, w64 ((band .i64 a0.Imm 16777215) - 8388608), a0.U⟩ : Sapi_Instr)], own 27 eSapi_Instr (some ad6) 1 [(⟨0, 0, 0, 0, 0, 0, false⟩ : Sapi_Instr)], own 27 eSapi_Instr (some ad2) 1 [a0]] := hw
      refine go_end (by kernel_rfl) ?_
      refine ib_norm ?_
      replace hw := hw.up 2
      replace hw := hw.up 2
      replace hw := hw.up 2
      replace hw := hw.only 3
      exact hJ5 (⟨w64 (1 + ((w64 ((a0.Kind.tmod 7) + 7)).tmod 7)), band .i64 a0.Op 15, 0, 0, 0, w64 ((band .i64 a0.Imm 16777215) - 8388608), a0.U⟩ : Sapi_Instr) _ _ (hs.keep [2, 3] (by kernel_rfl)) hw H
     ·replace H := ite_f H (beq_eq_false_iff_ne.1 hc)
      have hb90 := hc
      rw [hb90] at hs
      refine wp_skip ?_
      refine ib_norm ?_
      replace hw := hw.up 2
      replace hw := hw.up 2
      replace hw := hw.up 2
      replace hw := hw.only 3
      exact hJ5 (⟨w64 (1 + ((w64 ((a0.Kind.tmod 7) + 7)).tmod 7)), 0, band .i64 a0.A 15, 0, 0, 0, false⟩ : Sapi_Instr) _ _ (hs.keep [2, 3] (by kernel_rfl)) hw H
 refine go_seq_k fun K21 hK21 => ?_
 refine go_region ?_
 refine go_pvs 0 2 [1, 2, 3, 4, 21, 22] hs (L' := [(1, .pointer (some ad2)), (2, .pointer (some ad6)), (3, .pointer (some ad11)), (4, .int .i64 ((w64 ((a0.Op.tmod 12) + 12)).tmod 12)), (21, .int .i64 (w64 (1 + ((w64 ((a0.Kind.tmod 7) + 7)).tmod 7)))), (22, .bool ((w64 (1 + ((w64 ((a0.Kind.tmod 7) + 7)).tmod 7))) == 1))]) (by kernel_rfl) ?_ rfl
 clear hs; intro a hs
 refine go_end (by kernel_rfl) ?_
 refine hK21 _ _ ?_
 refine go_cond hs ((w64 (1 + ((w64 ((a0.Kind.tmod 7) + 7)).tmod 7))) == 1) (by kernel_rfl) (fun hc => ?_) (fun hc => ?_)
 ·replace H := ite_t H (beq_iff_eq.1 hc)
  have hb22 := hc
  rw [hb22] at hs
  refine wp_skip ?_
  replace hw := hw.up 2
  replace hw := hw.up 2
  replace hw := hw.up 2
  replace hw := hw.only 3
  exact hJ1 true _ _ (hs.keep [1, 2, 3, 4, 21, 22] (by kernel_rfl)) hw H
 ·replace H := ite_f H (beq_eq_false_iff_ne.1 hc)
  have hb23 := hc
  rw [hb23] at hs
  refine go_region ?_
  refine go_pvs 0 2 [1, 2, 3, 4, 21, 22] hs (L' := [(1, .pointer (some ad2)), (2, .pointer (some ad6)), (3, .pointer (some ad11)), (4, .int .i64 ((w64 ((a0.Op.tmod 12) + 12)).tmod 12)), (21, .int .i64 (w64 (1 + ((w64 ((a0.Kind.tmod 7) + 7)).tmod 7)))), (22, .bool ((w64 (1 + ((w64 ((a0.Kind.tmod 7) + 7)).tmod 7))) == 2))]) (by kernel_rfl) ?_ rfl
  clear hs; intro a hs
  refine go_end (by kernel_rfl) ?_
  replace hw := hw.up 2
  replace hw := hw.up 2
  replace hw := hw.up 2
  replace hw := hw.only 3
  exact hJ1 ((w64 (1 + ((w64 ((a0.Kind.tmod 7) + 7)).tmod 7))) == 2) _ _ (hs.keep [1, 2, 3, 4, 21, 22] (by kernel_rfl)) hw H

/-! rivet/rivetref04.bit: function 21 -/
noncomputable def rivetref04_bit (a0 : Bool) (a1 : Int) : Option Int := (if a0 = true then (if 0 ≤ a1 then some (shl .u32 1 a1) else none) else some 0)
set_option maxRecDepth 100000 in
set_option maxHeartbeats 4000000 in
theorem rivetref04_bit.calls (a0 : Bool) (a1 : Int) (r : Int) (w0 : World) (H : rivetref04_bit a0 a1 = some r) :
    Calls Try.prog 21 #[.bool a0, .int .i64 a1] w0 fun e w' => e = .returned (.int .u32 r) ∧ St [] w0 w' [] := by
 have hw : St [] w0 w0 [] := St.nil w0
 unfold rivetref04_bit at H
 refine go_fn Try.func21 rfl 8 Try.ntmps21 [(0, .bool a0), (1, .int .i64 a1)] (by kernel_rfl) rfl ?_
 intro a hs
 refine go_seq_k fun K1 hK1 => ?_
 refine go_region ?_
 refine go_pvs 0 1 [0, 1] hs (L' := [(0, .bool a0), (1, .int .i64 a1)]) (by kernel_rfl) ?_ rfl
 clear hs; intro a hs
 refine go_end (by kernel_rfl) ?_
 refine hK1 _ _ ?_
 refine go_seq_k fun K2 hK2 => ?_
 refine go_seq_k fun K3 hK3 => ?_
 refine go_region ?_
 refine go_pvs 0 1 [1, 5] hs (L' := [(1, .int .i64 a1), (5, .bool a0)]) (by kernel_rfl) ?_ rfl
 clear hs; intro a hs
 refine go_end (by kernel_rfl) ?_
 refine hK3 _ _ ?_
 refine go_cond hs a0 (by kernel_rfl) (fun hc => ?_) (fun hc => ?_)
 ·replace H := ite_t H hc
  have hb4 := hc
  rw [hb4] at hs
  refine go_seq_k fun K5 hK5 => ?_
  refine go_region ?_
  refine go_pvs 0 1 [6] hs (L' := [(6, .int .i64 a1)]) (by kernel_rfl) ?_ rfl
  clear hs; intro a hs
  obtain ⟨hp6, H⟩ := ite_only H
  refine go_run hs (op := (Op.binOp BinOp.shl 22 (Operand.const (Value.int IntKind.u32 1)) (Operand.tmp 6) 3)) (ty := 22) (dst := some 7) (g := none) (by kernel_rfl) (by kernel_rfl) (by kernel_rfl) (x_shl (k := .u32) (k' := .i64) (m := 1) (n := a1) (by kernel_rfl) (by kernel_rfl) hp6) [7] (L' := [(7, .int .u32 (shl .u32 1 a1))]) (by kernel_rfl) ?_
  clear hs; intro a hs
  refine go_pvs 2 3 [4] hs (L' := [(4, .int .u32 (shl .u32 1 a1))]) (by kernel_rfl) ?_ rfl
  clear hs; intro a hs
  refine go_end (by kernel_rfl) ?_
  refine hK5 _ _ ?_
  refine wp_ret ?_
  refine th_ret ?_
  obtain rfl := Option.some.inj H
  refine ret1 (t := 4) (v := .int .u32 (shl .u32 1 a1)) hs (by kernel_rfl) (by kernel_rfl) ?_
  exact ⟨rfl, hw.only 0⟩
 ·replace H := ite_f H (ff hc)
  have hb7 := hc
  rw [hb7] at hs
  refine wp_skip ?_
  refine hK2 _ _ ?_
  refine go_seq_k fun K8 hK8 => ?_
  refine go_region ?_
  refine go_pvs 0 1 [4] hs (L' := [(4, .int .u32 0)]) (by kernel_rfl) ?_ rfl
  clear hs; intro a hs
  refine go_end (by kernel_rfl) ?_
  refine hK8 _ _ ?_
  refine wp_ret ?_
  obtain rfl := Option.some.inj H
  refine ret1 (t := 4) (v := .int .u32 0) hs (by kernel_rfl) (by kernel_rfl) ?_
  exact ⟨rfl, hw.only 0⟩

/-! rivet/rivetref04.Show: function 27 -/
noncomputable def rivetref04_Show (a0 : Sapi_Regs) (a1 : Int) : Option Sapi_Regs := some ({ ({ a0 with N := decide (a1 ≥ 2147483648) } : Sapi_Regs) with Z := a1 == 0 } : Sapi_Regs)
set_option maxRecDepth 100000 in
set_option maxHeartbeats 4000000 in
theorem rivetref04_Show.calls (a0 : Sapi_Regs) (a1 : Int) (r : Sapi_Regs) (w0 : World) (H : rivetref04_Show a0 a1 = some r) :
    Calls Try.prog 27 #[.agg (eSapi_Regs.enc a0).toArray, .int .u32 a1] w0 fun e w' => e = .returned (.agg (eSapi_Regs.enc r).toArray) ∧ St [] w0 w' [] := by
 have hw : St [] w0 w0 [] := St.nil w0
 unfold rivetref04_Show at H
 refine go_fn Try.func27 rfl 12 Try.ntmps27 [(0, .agg (eSapi_Regs.enc a0).toArray), (1, .int .u32 a1)] (by kernel_rfl) rfl ?_
 intro a hs
 refine go_seq_k fun K1 hK1 => ?_
 refine go_region ?_
 obtain ⟨ad2, wd3, hx4, hw⟩ := x_box1 (P := Try.prog) (elem := 25) (v := (Operand.tmp 0)) (ty := 0) hs hw eSapi_Regs a0 (by kernel_rfl)
 refine go_run hs (op := (Op.box 25 (Operand.tmp 0))) (ty := 0) (dst := some 2) (g := none) (by kernel_rfl) (by kernel_rfl) (by kernel_rfl) hx4 [1, 2] (L' := [(1, .int .u32 a1), (2, .pointer (some ad2))]) (by kernel_rfl) ?_
 clear hs; intro a hs
 obtain ⟨ad6, wd7, hx8, hw⟩ := x_alloc1 (P := Try.prog) (elem := 25) (ty := 0) (z := .agg (eSapi_Regs.enc (⟨(Vector.replicate 16 0), 0, false, false, false, false⟩ : Sapi_Regs)).toArray) hs hw eSapi_Regs (⟨(Vector.replicate 16 0), 0, false, false, false, false⟩ : Sapi_Regs) (by kernel_rfl) (by kernel_rfl)
 refine go_run hs (op := (Op.alloc 25)) (ty := 0) (dst := some 4) (g := none) (by kernel_rfl) (by kernel_rfl) (by kernel_rfl) hx8 [1, 2, 4] (L' := [(1, .int .u32 a1), (2, .pointer (some ad2)), (4, .pointer (some ad6))]) (by kernel_rfl) ?_
 clear hs; intro a hs
 refine go_end (by kernel_rfl) ?_
 refine hK1 _ _ ?_
 refine go_seq_k fun K10 hK10 => ?_
 refine go_region ?_
 refine go_pvs 0 3 [1, 2, 4, 6, 7] hs (L' := [(1, .int .u32 a1), (2, .pointer (some ad2)), (4, .pointer (some ad6)), (6, .bool (decide (a1 ≥ 2147483648))), (7, .pointer (some ((ad2 : Addr).add 17)))]) (by kernel_rfl) ?_ rfl
 clear hs; intro a hs
 replace hw := hw.up 1
 obtain ⟨wd11, hx12, hw⟩ := x_put (P := Try.prog) (ty := 0) (t := 4) (x := (Operand.tmp 7)) (y := (Operand.tmp 6)) (off := 17) (p := (ad2 : Addr).add 17) (v := .bool (decide (a1 ≥ 2147483648))) (vs := [.bool (decide (a1 ≥ 2147483648))]) (i := 0) (e' := (({ a0 with N := decide (a1 ≥ 2147483648) } : Sapi_Regs) : Sapi_Regs)) hs hw rfl (one_ok a0).1 (one_ok a0).2 (by kernel_rfl) (one_off _ _ _) (by kernel_rfl) rfl (by kernel_rfl) (Nat.le_of_ble_eq_true rfl) (by simp [Value.oneCell']) (by kernel_rfl)
 refine go_unit hs (op := (Op.store 4 (Operand.tmp 7) (Operand.tmp 6))) (ty := 0) (dst := none) (g := none) (by kernel_rfl) (by kernel_rfl) (by kernel_rfl) hx12 [1, 2, 4] (L' := [(1, .int .u32 a1), (2, .pointer (some ad2)), (4, .pointer (some ad6))]) (by kernel_rfl) ?_
 clear hs; intro a hs
 replace hw : St [] w0 wd11 [own 25 eSapi_Regs (some ad2) 1 [({ a0 with N := decide (a1 ≥ 2147483648) } : Sapi_Regs)], own 25 eSapi_Regs (some ad6) 1 [(⟨(Vector.replicate 16 0), 0, false, false, false, false⟩ : Sapi_Regs)]] := hw
 refine go_end (by kernel_rfl) ?_
 refine hK10 _ _ ?_
 refine go_seq_k fun K13 hK13 => ?_
 refine go_region ?_
 refine go_pvs 0 3 [2, 4, 9, 10] hs (L' := [(2, .pointer (some ad2)), (4, .pointer (some ad6)), (9, .bool (a1 == 0)), (10, .pointer (some ((ad2 : Addr).add 18)))]) (by kernel_rfl) ?_ rfl
 clear hs; intro a hs
 obtain ⟨wd14, hx15, hw⟩ := x_put (P := Try.prog) (ty := 0) (t := 4) (x := (Operand.tmp 10)) (y := (Operand.tmp 9)) (off := 18) (p := (ad2 : Addr).add 18) (v := .bool (a1 == 0)) (vs := [.bool (a1 == 0)]) (i := 0) (e' := (({ ({ a0 with N := decide (a1 ≥ 2147483648) } : Sapi_Regs) with Z := a1 == 0 } : Sapi_Regs) : Sapi_Regs)) hs hw rfl (one_ok ({ a0 with N := decide (a1 ≥ 2147483648) } : Sapi_Regs)).1 (one_ok ({ a0 with N := decide (a1 ≥ 2147483648) } : Sapi_Regs)).2 (by kernel_rfl) (one_off _ _ _) (by kernel_rfl) rfl (by kernel_rfl) (Nat.le_of_ble_eq_true rfl) (by simp [Value.oneCell']) (by kernel_rfl)
 refine go_unit hs (op := (Op.store 4 (Operand.tmp 10) (Operand.tmp 9))) (ty := 0) (dst := none) (g := none) (by kernel_rfl) (by kernel_rfl) (by kernel_rfl) hx15 [2, 4] (L' := [(2, .pointer (some ad2)), (4, .pointer (some ad6))]) (by kernel_rfl) ?_
 clear hs; intro a hs
 replace hw : St [] w0 wd14 [own 25 eSapi_Regs (some ad2) 1 [({ ({ a0 with N := decide (a1 ≥ 2147483648) } : Sapi_Regs) with Z := a1 == 0 } : Sapi_Regs)], own 25 eSapi_Regs (some ad6) 1 [(⟨(Vector.replicate 16 0), 0, false, false, false, false⟩ : Sapi_Regs)]] := hw
 refine go_end (by kernel_rfl) ?_
 refine hK13 _ _ ?_
 refine go_seq_k fun K16 hK16 => ?_
 refine go_region ?_
 refine go_run hs (op := (Op.load 25 (Operand.tmp 2))) (ty := 25) (dst := some 11) (g := none) (by kernel_rfl) (by kernel_rfl) (by kernel_rfl) (x_lds (E := eSapi_Regs) (off := 0) (p := ad2) (cs := (eSapi_Regs.enc ({ ({ a0 with N := decide (a1 ≥ 2147483648) } : Sapi_Regs) with Z := a1 == 0 } : Sapi_Regs))) (Rd.of_own (hw.up 0)) (one_ok ({ ({ a0 with N := decide (a1 ≥ 2147483648) } : Sapi_Regs) with Z := a1 == 0 } : Sapi_Regs)).1 (one_ok ({ ({ a0 with N := decide (a1 ≥ 2147483648) } : Sapi_Regs) with Z := a1 == 0 } : Sapi_Regs)).2 (by kernel_rfl) (one_at _ _) (by kernel_rfl) (by kernel_rfl) (by kernel_rfl)) [4, 11] (L' := [(4, .pointer (some ad6)), (11, .agg (eSapi_Regs.enc ({ ({ a0 with N := decide (a1 ≥ 2147483648) } : Sapi_Regs) with Z := a1 == 0 } : Sapi_Regs)).toArray)]) (by kernel_rfl) ?_
 clear hs; intro a hs
 replace hw := hw.up 1
 obtain ⟨wd17, hx18, hw⟩ := x_put (P := Try.prog) (ty := 0) (t := 25) (x := (Operand.tmp 4)) (y := (Operand.tmp 11)) (off := 0) (p := ad6) (v := .agg (eSapi_Regs.enc ({ ({ a0 with N := decide (a1 ≥ 2147483648) } : Sapi_Regs) with Z := a1 == 0 } : Sapi_Regs)).toArray) (vs := (eSapi_Regs.enc ({ ({ a0 with N := decide (a1 ≥ 2147483648) } : Sapi_Regs) with Z := a1 == 0 } : Sapi_Regs))) (i := 0) (e' := (({ ({ a0 with N := decide (a1 ≥ 2147483648) } : Sapi_Regs) with Z := a1 == 0 } : Sapi_Regs) : Sapi_Regs)) hs hw rfl (one_ok (⟨(Vector.replicate 16 0), 0, false, false, false, false⟩ : Sapi_Regs)).1 (one_ok (⟨(Vector.replicate 16 0), 0, false, false, false, false⟩ : Sapi_Regs)).2 (by kernel_rfl) (one_at _ _) (by kernel_rfl) rfl (by kernel_rfl) (Nat.le_of_ble_eq_true rfl) (eSapi_Regs.one _) (by kernel_rfl)
 refine go_unit hs (op := (Op.store 25 (Operand.tmp 4) (Operand.tmp 11))) (ty := 0) (dst := none) (g := none) (by kernel_rfl) (by kernel_rfl) (by kernel_rfl) hx18 [4] (L' := [(4, .pointer (some ad6))]) (by kernel_rfl) ?_
 clear hs; intro a hs
 replace hw : St [] w0 wd17 [own 25 eSapi_Regs (some ad6) 1 [({ ({ a0 with N := decide (a1 ≥ 2147483648) } : Sapi_Regs) with Z := a1 == 0 } : Sapi_Regs)], own 25 eSapi_Regs (some ad2) 1 [({ ({ a0 with N := decide (a1 ≥ 2147483648) } : Sapi_Regs) with Z := a1 == 0 } : Sapi_Regs)]] := hw
 refine go_end (by kernel_rfl) ?_
 refine hK16 _ _ ?_
 refine wp_ret ?_
 obtain rfl := Option.some.inj H
 refine ret1g (L := [(4, .pointer (some ad6))]) (r1 := .cell 4 25) (v1 := .agg (eSapi_Regs.enc ({ ({ a0 with N := decide (a1 ≥ 2147483648) } : Sapi_Regs) with Z := a1 == 0 } : Sapi_Regs)).toArray) hs (by kernel_rfl) ⟨_, (show lk 4 [(4, .pointer (some ad6))] = some (.pointer (some ad6)) by kernel_rfl), lv_row (E := eSapi_Regs) (x := ({ ({ a0 with N := decide (a1 ≥ 2147483648) } : Sapi_Regs) with Z := a1 == 0 } : Sapi_Regs)) (by kernel_rfl) (by kernel_rfl) (Rd.of_own (hw.up 0))⟩ ?_
 exact ⟨rfl, hw.only 0⟩

/-! rivet/rivetref04.Taken: function 16 -/
noncomputable def rivetref04_Taken.j3 (a1 : Int) (v43 : Vector Bool 8) : Option Bool := (if 0 ≤ (a1.tmod 8) ∧ (a1.tmod 8) < ((8 : Nat) : Int) then some ((vx false v43 (a1.tmod 8 : Int).toNat) != (decide (a1 > 7))) else none)
noncomputable def rivetref04_Taken.j2 (a0 : Sapi_Regs) (a1 : Int) : Option Bool := (if a0.C = true then (if (a0.N != a0.V) = true then rivetref04_Taken.j3 a1 (#v[a0.N, a0.Z, true, a0.V, true, true, true, true] : Vector Bool 8) else rivetref04_Taken.j3 a1 (#v[a0.N, a0.Z, true, a0.V, true, false, a0.Z, true] : Vector Bool 8)) else (if (a0.N != a0.V) = true then rivetref04_Taken.j3 a1 (#v[a0.N, a0.Z, false, a0.V, a0.Z, true, true, true] : Vector Bool 8) else rivetref04_Taken.j3 a1 (#v[a0.N, a0.Z, false, a0.V, a0.Z, false, a0.Z, true] : Vector Bool 8)))
noncomputable def rivetref04_Taken.j1 (a0 : Sapi_Regs) (a1 : Int) (v9 : Bool) : Option Bool := (if v9 = true then some false else rivetref04_Taken.j2 a0 a1)
noncomputable def rivetref04_Taken (a0 : Sapi_Regs) (a1 : Int) : Option Bool := (if a1 < 0 then rivetref04_Taken.j1 a0 a1 true else rivetref04_Taken.j1 a0 a1 (decide (a1 > 15)))
set_option maxRecDepth 100000 in
set_option maxHeartbeats 4000000 in
theorem rivetref04_Taken.calls (a0 : Sapi_Regs) (a1 : Int) (r : Bool) (w0 : World) (H : rivetref04_Taken a0 a1 = some r) :
    Calls Try.prog 16 #[.agg (eSapi_Regs.enc a0).toArray, .int .i64 a1] w0 fun e w' => e = .returned (.bool r) ∧ St [] w0 w' [] := by
 have hw : St [] w0 w0 [] := St.nil w0
 unfold rivetref04_Taken at H
 refine go_fn Try.func16 rfl 48 Try.ntmps16 [(0, .agg (eSapi_Regs.enc a0).toArray), (1, .int .i64 a1)] (by kernel_rfl) rfl ?_
 intro a hs
 refine go_seq_k fun K1 hK1 => ?_
 refine go_region ?_
 obtain ⟨ad2, wd3, hx4, hw⟩ := x_box1 (P := Try.prog) (elem := 25) (v := (Operand.tmp 0)) (ty := 0) hs hw eSapi_Regs a0 (by kernel_rfl)
 refine go_run hs (op := (Op.box 25 (Operand.tmp 0))) (ty := 0) (dst := some 2) (g := none) (by kernel_rfl) (by kernel_rfl) (by kernel_rfl) hx4 [1, 2] (L' := [(1, .int .i64 a1), (2, .pointer (some ad2))]) (by kernel_rfl) ?_
 clear hs; intro a hs
 refine go_pvs 1 2 [1, 2] hs (L' := [(1, .int .i64 a1), (2, .pointer (some ad2))]) (by kernel_rfl) ?_ rfl
 clear hs; intro a hs
 refine go_end (by kernel_rfl) ?_
 refine hK1 _ _ ?_
 refine go_seq_k fun K6 hK6 => ?_
 have hJ2 : ∀ (a : Act) (w : World), Slots a 48 [(1, .int .i64 a1), (2, .pointer (some ad2))] → St [] w0 w [own 25 eSapi_Regs (some ad2) 1 [a0]] → rivetref04_Taken.j2 a0 a1 = some r → K6 a w := by
  intro a w hs hw H
  unfold rivetref04_Taken.j2 at H
  refine hK6 _ _ ?_
  refine go_seq_k fun K13 hK13 => ?_
  have hJ3 : ∀ (ad42 : Addr) (v43 : Vector Bool 8) (a : Act) (w : World), Slots a 48 [(1, .int .i64 a1), (5, .pointer (some ad42))] → St [] w0 w [own 25 eSapi_Regs (some ad2) 1 [a0], own 61 eA61 (some ad42) 1 [v43]] → rivetref04_Taken.j3 a1 v43 = some r → K13 a w := by
   intro ad42 v43 a w hs hw H
   unfold rivetref04_Taken.j3 at H
   refine hK13 _ _ ?_
   refine go_seq_k fun K44 hK44 => ?_
   refine go_region ?_
   refine go_pvs 0 2 [1, 5, 42] hs (L' := [(1, .int .i64 a1), (5, .pointer (some ad42)), (42, .int .i64 (a1.tmod 8))]) (by kernel_rfl) ?_ rfl
   clear hs; intro a hs
   obtain ⟨hp45, H⟩ := ite_only H
   refine go_run hs (op := (Op.indexAddr 61 (Operand.tmp 5) (Operand.tmp 42))) (ty := 0) (dst := some 43) (g := none) (by kernel_rfl) (by kernel_rfl) (by kernel_rfl) (x_vidx (e := 4) (p := ad42) (n := 8) (k := .i64) (i := (a1.tmod 8)) (sz := 1) (by kernel_rfl) (by kernel_rfl) (by kernel_rfl) (by kernel_rfl) hp45.1 hp45.2) [1, 43] (L' := [(1, .int .i64 a1), (43, .pointer (some ((ad42 : Addr).add ((a1.tmod 8 : Int).toNat * 1))))]) (by kernel_rfl) ?_
   clear hs; intro a hs
   refine go_run hs (op := (Op.load 4 (Operand.tmp 43))) (ty := 4) (dst := some 44) (g := none) (by kernel_rfl) (by kernel_rfl) (by kernel_rfl) (x_ld (E := eA61) (off := 0 + (a1.tmod 8 : Int).toNat * 1) (p := (ad42 : Addr).add ((a1.tmod 8 : Int).toNat * 1)) (v := .bool (vx false v43 (a1.tmod 8 : Int).toNat)) (Rd.of_own (hw.up 1)) (one_ok v43).1 (one_ok v43).2 (by kernel_rfl) (by simp only [add_add', Int.toNat_zero, Nat.zero_mul, Nat.zero_add, Nat.mul_one] <;> rfl) (by kernel_rfl) (vget (cs := eA61.enc v43) (pre := []) (post := []) (f := (fun j : Nat => .bool (vx false v43 j))) (n := 8) (o := 0) (i := (a1.tmod 8 : Int).toNat) (by kernel_rfl) rfl (by have := hp45; omega))) [1, 44] (L' := [(1, .int .i64 a1), (44, .bool (vx false v43 (a1.tmod 8 : Int).toNat))]) (by kernel_rfl) ?_
   clear hs; intro a hs
   refine go_pvs 4 8 [4] hs (L' := [(4, .bool ((vx false v43 (a1.tmod 8 : Int).toNat) != (decide (a1 > 7))))]) (by kernel_rfl) ?_ rfl
   clear hs; intro a hs
   refine go_end (by kernel_rfl) ?_
   refine hK44 _ _ ?_
   refine wp_ret ?_
   obtain rfl := Option.some.inj H
   refine ret1 (t := 4) (v := .bool ((vx false v43 (a1.tmod 8 : Int).toNat) != (decide (a1 > 7)))) hs (by kernel_rfl) (by kernel_rfl) ?_
   exact ⟨rfl, hw.only 0⟩
  refine go_region ?_
  refine go_pvs 0 1 [1, 2, 12] hs (L' := [(1, .int .i64 a1), (2, .pointer (some ad2)), (12, .pointer (some ((ad2 : Addr).add 17)))]) (by kernel_rfl) ?_ rfl
  clear hs; intro a hs
  refine go_run hs (op := (Op.load 4 (Operand.tmp 12))) (ty := 4) (dst := some 13) (g := none) (by kernel_rfl) (by kernel_rfl) (by kernel_rfl) (x_ld (E := eSapi_Regs) (off := 17) (p := (ad2 : Addr).add 17) (v := .bool a0.N) (Rd.of_own (hw.up 0)) (one_ok a0).1 (one_ok a0).2 (by kernel_rfl) (one_off _ _ _) (by kernel_rfl) (by kernel_rfl)) [1, 2, 13] (L' := [(1, .int .i64 a1), (2, .pointer (some ad2)), (13, .bool a0.N)]) (by kernel_rfl) ?_
  clear hs; intro a hs
  refine go_pvs 2 3 [1, 2, 13, 14] hs (L' := [(1, .int .i64 a1), (2, .pointer (some ad2)), (13, .bool a0.N), (14, .pointer (some ((ad2 : Addr).add 18)))]) (by kernel_rfl) ?_ rfl
  clear hs; intro a hs
  refine go_run hs (op := (Op.load 4 (Operand.tmp 14))) (ty := 4) (dst := some 15) (g := none) (by kernel_rfl) (by kernel_rfl) (by kernel_rfl) (x_ld (E := eSapi_Regs) (off := 18) (p := (ad2 : Addr).add 18) (v := .bool a0.Z) (Rd.of_own (hw.up 0)) (one_ok a0).1 (one_ok a0).2 (by kernel_rfl) (one_off _ _ _) (by kernel_rfl) (by kernel_rfl)) [1, 2, 13, 15] (L' := [(1, .int .i64 a1), (2, .pointer (some ad2)), (13, .bool a0.N), (15, .bool a0.Z)]) (by kernel_rfl) ?_
  clear hs; intro a hs
  refine go_pvs 4 5 [1, 2, 13, 15, 16] hs (L' := [(1, .int .i64 a1), (2, .pointer (some ad2)), (13, .bool a0.N), (15, .bool a0.Z), (16, .pointer (some ((ad2 : Addr).add 19)))]) (by kernel_rfl) ?_ rfl
  clear hs; intro a hs
  refine go_run hs (op := (Op.load 4 (Operand.tmp 16))) (ty := 4) (dst := some 17) (g := none) (by kernel_rfl) (by kernel_rfl) (by kernel_rfl) (x_ld (E := eSapi_Regs) (off := 19) (p := (ad2 : Addr).add 19) (v := .bool a0.C) (Rd.of_own (hw.up 0)) (one_ok a0).1 (one_ok a0).2 (by kernel_rfl) (one_off _ _ _) (by kernel_rfl) (by kernel_rfl)) [1, 2, 13, 15, 17] (L' := [(1, .int .i64 a1), (2, .pointer (some ad2)), (13, .bool a0.N), (15, .bool a0.Z), (17, .bool a0.C)]) (by kernel_rfl) ?_
  clear hs; intro a hs
  refine go_pvs 6 7 [1, 2, 13, 15, 17, 18] hs (L' := [(1, .int .i64 a1), (2, .pointer (some ad2)), (13, .bool a0.N), (15, .bool a0.Z), (17, .bool a0.C), (18, .pointer (some ((ad2 : Addr).add 20)))]) (by kernel_rfl) ?_ rfl
  clear hs; intro a hs
  refine go_run hs (op := (Op.load 4 (Operand.tmp 18))) (ty := 4) (dst := some 19) (g := none) (by kernel_rfl) (by kernel_rfl) (by kernel_rfl) (x_ld (E := eSapi_Regs) (off := 20) (p := (ad2 : Addr).add 20) (v := .bool a0.V) (Rd.of_own (hw.up 0)) (one_ok a0).1 (one_ok a0).2 (by kernel_rfl) (one_off _ _ _) (by kernel_rfl) (by kernel_rfl)) [1, 2, 13, 15, 17, 19] (L' := [(1, .int .i64 a1), (2, .pointer (some ad2)), (13, .bool a0.N), (15, .bool a0.Z), (17, .bool a0.C), (19, .bool a0.V)]) (by kernel_rfl) ?_
  clear hs; intro a hs
  refine go_pvs 8 9 [1, 2, 13, 15, 17, 19, 20] hs (L' := [(1, .int .i64 a1), (2, .pointer (some ad2)), (13, .bool a0.N), (15, .bool a0.Z), (17, .bool a0.C), (19, .bool a0.V), (20, .pointer (some ((ad2 : Addr).add 19)))]) (by kernel_rfl) ?_ rfl
  clear hs; intro a hs
  refine go_run hs (op := (Op.load 4 (Operand.tmp 20))) (ty := 4) (dst := some 21) (g := none) (by kernel_rfl) (by kernel_rfl) (by kernel_rfl) (x_ld (E := eSapi_Regs) (off := 19) (p := (ad2 : Addr).add 19) (v := .bool a0.C) (Rd.of_own (hw.up 0)) (one_ok a0).1 (one_ok a0).2 (by kernel_rfl) (one_off _ _ _) (by kernel_rfl) (by kernel_rfl)) [1, 2, 13, 15, 17, 19, 21] (L' := [(1, .int .i64 a1), (2, .pointer (some ad2)), (13, .bool a0.N), (15, .bool a0.Z), (17, .bool a0.C), (19, .bool a0.V), (21, .bool a0.C)]) (by kernel_rfl) ?_
  clear hs; intro a hs
  refine go_pvs 10 11 [1, 2, 13, 15, 17, 19, 22] hs (L' := [(1, .int .i64 a1), (2, .pointer (some ad2)), (13, .bool a0.N), (15, .bool a0.Z), (17, .bool a0.C), (19, .bool a0.V), (22, .bool a0.C)]) (by kernel_rfl) ?_ rfl
  clear hs; intro a hs
  cases hb14 : a0.C
  ·replace H := ite_f H (ff hb14)
   rw [hb14] at hs
   refine go_pvs 11 12 [1, 2, 13, 15, 17, 19, 22, 23] hs (L' := [(1, .int .i64 a1), (2, .pointer (some ad2)), (13, .bool a0.N), (15, .bool a0.Z), (17, .bool false), (19, .bool a0.V), (22, .bool false), (23, .pointer (some ((ad2 : Addr).add 18)))]) (by kernel_rfl) ?_ rfl
   clear hs; intro a hs
   refine go_run hs (op := (Op.load 4 (Operand.tmp 23))) (ty := 4) (dst := some 24) (g := some (10, false)) (by kernel_rfl) (by kernel_rfl) (by kernel_rfl) (x_ld (E := eSapi_Regs) (off := 18) (p := (ad2 : Addr).add 18) (v := .bool a0.Z) (Rd.of_own (hw.up 0)) (one_ok a0).1 (one_ok a0).2 (by kernel_rfl) (one_off _ _ _) (by kernel_rfl) (by kernel_rfl)) [1, 2, 13, 15, 17, 19, 22, 24] (L' := [(1, .int .i64 a1), (2, .pointer (some ad2)), (13, .bool a0.N), (15, .bool a0.Z), (17, .bool false), (19, .bool a0.V), (22, .bool false), (24, .bool a0.Z)]) (by kernel_rfl) ?_
   clear hs; intro a hs
   refine go_pvs 13 15 [1, 2, 13, 15, 17, 19, 25, 26] hs (L' := [(1, .int .i64 a1), (2, .pointer (some ad2)), (13, .bool a0.N), (15, .bool a0.Z), (17, .bool false), (19, .bool a0.V), (25, .bool a0.Z), (26, .pointer (some ((ad2 : Addr).add 17)))]) (by kernel_rfl) ?_ rfl
   clear hs; intro a hs
   refine go_run hs (op := (Op.load 4 (Operand.tmp 26))) (ty := 4) (dst := some 27) (g := none) (by kernel_rfl) (by kernel_rfl) (by kernel_rfl) (x_ld (E := eSapi_Regs) (off := 17) (p := (ad2 : Addr).add 17) (v := .bool a0.N) (Rd.of_own (hw.up 0)) (one_ok a0).1 (one_ok a0).2 (by kernel_rfl) (one_off _ _ _) (by kernel_rfl) (by kernel_rfl)) [1, 2, 13, 15, 17, 19, 25, 27] (L' := [(1, .int .i64 a1), (2, .pointer (some ad2)), (13, .bool a0.N), (15, .bool a0.Z), (17, .bool false), (19, .bool a0.V), (25, .bool a0.Z), (27, .bool a0.N)]) (by kernel_rfl) ?_
   clear hs; intro a hs
   refine go_pvs 16 17 [1, 2, 13, 15, 17, 19, 25, 27, 28] hs (L' := [(1, .int .i64 a1), (2, .pointer (some ad2)), (13, .bool a0.N), (15, .bool a0.Z), (17, .bool false), (19, .bool a0.V), (25, .bool a0.Z), (27, .bool a0.N), (28, .pointer (some ((ad2 : Addr).add 20)))]) (by kernel_rfl) ?_ rfl
   clear hs; intro a hs
   refine go_run hs (op := (Op.load 4 (Operand.tmp 28))) (ty := 4) (dst := some 29) (g := none) (by kernel_rfl) (by kernel_rfl) (by kernel_rfl) (x_ld (E := eSapi_Regs) (off := 20) (p := (ad2 : Addr).add 20) (v := .bool a0.V) (Rd.of_own (hw.up 0)) (one_ok a0).1 (one_ok a0).2 (by kernel_rfl) (one_off _ _ _) (by kernel_rfl) (by kernel_rfl)) [1, 2, 13, 15, 17, 19, 25, 27, 29] (L' := [(1, .int .i64 a1), (2, .pointer (some ad2)), (13, .bool a0.N), (15, .bool a0.Z), (17, .bool false), (19, .bool a0.V), (25, .bool a0.Z), (27, .bool a0.N), (29, .bool a0.V)]) (by kernel_rfl) ?_
   clear hs; intro a hs
   refine go_pvs 18 20 [1, 2, 13, 15, 17, 19, 25, 30, 31] hs (L' := [(1, .int .i64 a1), (2, .pointer (some ad2)), (13, .bool a0.N), (15, .bool a0.Z), (17, .bool false), (19, .bool a0.V), (25, .bool a0.Z), (30, .bool (a0.N != a0.V)), (31, .pointer (some ((ad2 : Addr).add 17)))]) (by kernel_rfl) ?_ rfl
   clear hs; intro a hs
   refine go_run hs (op := (Op.load 4 (Operand.tmp 31))) (ty := 4) (dst := some 32) (g := none) (by kernel_rfl) (by kernel_rfl) (by kernel_rfl) (x_ld (E := eSapi_Regs) (off := 17) (p := (ad2 : Addr).add 17) (v := .bool a0.N) (Rd.of_own (hw.up 0)) (one_ok a0).1 (one_ok a0).2 (by kernel_rfl) (one_off _ _ _) (by kernel_rfl) (by kernel_rfl)) [1, 2, 13, 15, 17, 19, 25, 30, 32] (L' := [(1, .int .i64 a1), (2, .pointer (some ad2)), (13, .bool a0.N), (15, .bool a0.Z), (17, .bool false), (19, .bool a0.V), (25, .bool a0.Z), (30, .bool (a0.N != a0.V)), (32, .bool a0.N)]) (by kernel_rfl) ?_
   clear hs; intro a hs
   refine go_pvs 21 22 [1, 2, 13, 15, 17, 19, 25, 30, 32, 33] hs (L' := [(1, .int .i64 a1), (2, .pointer (some ad2)), (13, .bool a0.N), (15, .bool a0.Z), (17, .bool false), (19, .bool a0.V), (25, .bool a0.Z), (30, .bool (a0.N != a0.V)), (32, .bool a0.N), (33, .pointer (some ((ad2 : Addr).add 20)))]) (by kernel_rfl) ?_ rfl
   clear hs; intro a hs
   refine go_run hs (op := (Op.load 4 (Operand.tmp 33))) (ty := 4) (dst := some 34) (g := none) (by kernel_rfl) (by kernel_rfl) (by kernel_rfl) (x_ld (E := eSapi_Regs) (off := 20) (p := (ad2 : Addr).add 20) (v := .bool a0.V) (Rd.of_own (hw.up 0)) (one_ok a0).1 (one_ok a0).2 (by kernel_rfl) (one_off _ _ _) (by kernel_rfl) (by kernel_rfl)) [1, 2, 13, 15, 17, 19, 25, 30, 32, 34] (L' := [(1, .int .i64 a1), (2, .pointer (some ad2)), (13, .bool a0.N), (15, .bool a0.Z), (17, .bool false), (19, .bool a0.V), (25, .bool a0.Z), (30, .bool (a0.N != a0.V)), (32, .bool a0.N), (34, .bool a0.V)]) (by kernel_rfl) ?_
   clear hs; intro a hs
   refine go_pvs 23 25 [1, 2, 13, 15, 17, 19, 25, 30, 36] hs (L' := [(1, .int .i64 a1), (2, .pointer (some ad2)), (13, .bool a0.N), (15, .bool a0.Z), (17, .bool false), (19, .bool a0.V), (25, .bool a0.Z), (30, .bool (a0.N != a0.V)), (36, .bool (a0.N != a0.V))]) (by kernel_rfl) ?_ rfl
   clear hs; intro a hs
   cases hb15 : (a0.N != a0.V)
   ·replace H := ite_f H (ff hb15)
    rw [hb15] at hs
    refine go_pvs 25 26 [1, 13, 15, 17, 19, 25, 30, 36, 37] hs (L' := [(1, .int .i64 a1), (13, .bool a0.N), (15, .bool a0.Z), (17, .bool false), (19, .bool a0.V), (25, .bool a0.Z), (30, .bool false), (36, .bool false), (37, .pointer (some ((ad2 : Addr).add 18)))]) (by kernel_rfl) ?_ rfl
    clear hs; intro a hs
    refine go_run hs (op := (Op.load 4 (Operand.tmp 37))) (ty := 4) (dst := some 38) (g := some (24, false)) (by kernel_rfl) (by kernel_rfl) (by kernel_rfl) (x_ld (E := eSapi_Regs) (off := 18) (p := (ad2 : Addr).add 18) (v := .bool a0.Z) (Rd.of_own (hw.up 0)) (one_ok a0).1 (one_ok a0).2 (by kernel_rfl) (one_off _ _ _) (by kernel_rfl) (by kernel_rfl)) [1, 13, 15, 17, 19, 25, 30, 36, 38] (L' := [(1, .int .i64 a1), (13, .bool a0.N), (15, .bool a0.Z), (17, .bool false), (19, .bool a0.V), (25, .bool a0.Z), (30, .bool false), (36, .bool false), (38, .bool a0.Z)]) (by kernel_rfl) ?_
    clear hs; intro a hs
    refine go_pvs 27 29 [1, 40] hs (L' := [(1, .int .i64 a1), (40, .agg (eA61.enc (#v[a0.N, a0.Z, false, a0.V, a0.Z, false, a0.Z, true] : Vector Bool 8)).toArray)]) (by kernel_rfl) ?_ rfl
    clear hs; intro a hs
    obtain ⟨ad16, wd17, hx18, hw⟩ := x_alloc1 (P := Try.prog) (elem := 61) (ty := 0) (z := .agg (eA61.enc (Vector.replicate 8 false)).toArray) hs hw eA61 (Vector.replicate 8 false) (by kernel_rfl) (by kernel_rfl)
    refine go_run hs (op := (Op.alloc 61)) (ty := 0) (dst := some 5) (g := none) (by kernel_rfl) (by kernel_rfl) (by kernel_rfl) hx18 [1, 5, 40] (L' := [(1, .int .i64 a1), (5, .pointer (some ad16)), (40, .agg (eA61.enc (#v[a0.N, a0.Z, false, a0.V, a0.Z, false, a0.Z, true] : Vector Bool 8)).toArray)]) (by kernel_rfl) ?_
    clear hs; intro a hs
    obtain ⟨wd20, hx21, hw⟩ := x_put (P := Try.prog) (ty := 0) (t := 61) (x := (Operand.tmp 5)) (y := (Operand.tmp 40)) (off := 0) (p := ad16) (v := .agg (eA61.enc (#v[a0.N, a0.Z, false, a0.V, a0.Z, false, a0.Z, true] : Vector Bool 8)).toArray) (vs := (eA61.enc (#v[a0.N, a0.Z, false, a0.V, a0.Z, false, a0.Z, true] : Vector Bool 8))) (i := 0) (e' := ((#v[a0.N, a0.Z, false, a0.V, a0.Z, false, a0.Z, true] : Vector Bool 8) : Vector Bool 8)) hs hw rfl (one_ok (Vector.replicate 8 false)).1 (one_ok (Vector.replicate 8 false)).2 (by kernel_rfl) (one_at _ _) (by kernel_rfl) rfl (by kernel_rfl) (Nat.le_of_ble_eq_true rfl) (eA61.one _) (by kernel_rfl)
    refine go_unit hs (op := (Op.store 61 (Operand.tmp 5) (Operand.tmp 40))) (ty := 0) (dst := none) (g := none) (by kernel_rfl) (by kernel_rfl) (by kernel_rfl) hx21 [1, 5] (L' := [(1, .int .i64 a1), (5, .pointer (some ad16))]) (by kernel_rfl) ?_
    clear hs; intro a hs
    replace hw : St [] w0 wd20 [own 61 eA61 (some ad16) 1 [(#v[a0.N, a0.Z, false, a0.V, a0.Z, false, a0.Z, true] : Vector Bool 8)], own 25 eSapi_Regs (some ad2) 1 [a0]] := hw
    refine go_end (by kernel_rfl) ?_
    replace hw := hw.up 1
    replace hw := hw.only 2
    exact hJ3 ad16 (#v[a0.N, a0.Z, false, a0.V, a0.Z, false, a0.Z, true] : Vector Bool 8) _ _ (hs.keep [1, 5] (by kernel_rfl)) hw H
   ·replace H := ite_t H hb15
    rw [hb15] at hs
    refine go_pvs 25 29 [1, 40] hs (L' := [(1, .int .i64 a1), (40, .agg (eA61.enc (#v[a0.N, a0.Z, false, a0.V, a0.Z, true, true, true] : Vector Bool 8)).toArray)]) (by kernel_rfl) ?_ rfl
    clear hs; intro a hs
    obtain ⟨ad22, wd23, hx24, hw⟩ := x_alloc1 (P := Try.prog) (elem := 61) (ty := 0) (z := .agg (eA61.enc (Vector.replicate 8 false)).toArray) hs hw eA61 (Vector.replicate 8 false) (by kernel_rfl) (by kernel_rfl)
    refine go_run hs (op := (Op.alloc 61)) (ty := 0) (dst := some 5) (g := none) (by kernel_rfl) (by kernel_rfl) (by kernel_rfl) hx24 [1, 5, 40] (L' := [(1, .int .i64 a1), (5, .pointer (some ad22)), (40, .agg (eA61.enc (#v[a0.N, a0.Z, false, a0.V, a0.Z, true, true, true] : Vector Bool 8)).toArray)]) (by kernel_rfl) ?_
    clear hs; intro a hs
    obtain ⟨wd26, hx27, hw⟩ := x_put (P := Try.prog) (ty := 0) (t := 61) (x := (Operand.tmp 5)) (y := (Operand.tmp 40)) (off := 0) (p := ad22) (v := .agg (eA61.enc (#v[a0.N, a0.Z, false, a0.V, a0.Z, true, true, true] : Vector Bool 8)).toArray) (vs := (eA61.enc (#v[a0.N, a0.Z, false, a0.V, a0.Z, true, true, true] : Vector Bool 8))) (i := 0) (e' := ((#v[a0.N, a0.Z, false, a0.V, a0.Z, true, true, true] : Vector Bool 8) : Vector Bool 8)) hs hw rfl (one_ok (Vector.replicate 8 false)).1 (one_ok (Vector.replicate 8 false)).2 (by kernel_rfl) (one_at _ _) (by kernel_rfl) rfl (by kernel_rfl) (Nat.le_of_ble_eq_true rfl) (eA61.one _) (by kernel_rfl)
    refine go_unit hs (op := (Op.store 61 (Operand.tmp 5) (Operand.tmp 40))) (ty := 0) (dst := none) (g := none) (by kernel_rfl) (by kernel_rfl) (by kernel_rfl) hx27 [1, 5] (L' := [(1, .int .i64 a1), (5, .pointer (some ad22))]) (by kernel_rfl) ?_
    clear hs; intro a hs
    replace hw : St [] w0 wd26 [own 61 eA61 (some ad22) 1 [(#v[a0.N, a0.Z, false, a0.V, a0.Z, true, true, true] : Vector Bool 8)], own 25 eSapi_Regs (some ad2) 1 [a0]] := hw
    refine go_end (by kernel_rfl) ?_
    replace hw := hw.up 1
    replace hw := hw.only 2
    exact hJ3 ad22 (#v[a0.N, a0.Z, false, a0.V, a0.Z, true, true, true] : Vector Bool 8) _ _ (hs.keep [1, 5] (by kernel_rfl)) hw H
  ·replace H := ite_t H hb14
   rw [hb14] at hs
   refine go_pvs 11 15 [1, 2, 13, 15, 17, 19, 25, 26] hs (L' := [(1, .int .i64 a1), (2, .pointer (some ad2)), (13, .bool a0.N), (15, .bool a0.Z), (17, .bool true), (19, .bool a0.V), (25, .bool true), (26, .pointer (some ((ad2 : Addr).add 17)))]) (by kernel_rfl) ?_ rfl
   clear hs; intro a hs
   refine go_run hs (op := (Op.load 4 (Operand.tmp 26))) (ty := 4) (dst := some 27) (g := none) (by kernel_rfl) (by kernel_rfl) (by kernel_rfl) (x_ld (E := eSapi_Regs) (off := 17) (p := (ad2 : Addr).add 17) (v := .bool a0.N) (Rd.of_own (hw.up 0)) (one_ok a0).1 (one_ok a0).2 (by kernel_rfl) (one_off _ _ _) (by kernel_rfl) (by kernel_rfl)) [1, 2, 13, 15, 17, 19, 25, 27] (L' := [(1, .int .i64 a1), (2, .pointer (some ad2)), (13, .bool a0.N), (15, .bool a0.Z), (17, .bool true), (19, .bool a0.V), (25, .bool true), (27, .bool a0.N)]) (by kernel_rfl) ?_
   clear hs; intro a hs
   refine go_pvs 16 17 [1, 2, 13, 15, 17, 19, 25, 27, 28] hs (L' := [(1, .int .i64 a1), (2, .pointer (some ad2)), (13, .bool a0.N), (15, .bool a0.Z), (17, .bool true), (19, .bool a0.V), (25, .bool true), (27, .bool a0.N), (28, .pointer (some ((ad2 : Addr).add 20)))]) (by kernel_rfl) ?_ rfl
   clear hs; intro a hs
   refine go_run hs (op := (Op.load 4 (Operand.tmp 28))) (ty := 4) (dst := some 29) (g := none) (by kernel_rfl) (by kernel_rfl) (by kernel_rfl) (x_ld (E := eSapi_Regs) (off := 20) (p := (ad2 : Addr).add 20) (v := .bool a0.V) (Rd.of_own (hw.up 0)) (one_ok a0).1 (one_ok a0).2 (by kernel_rfl) (one_off _ _ _) (by kernel_rfl) (by kernel_rfl)) [1, 2, 13, 15, 17, 19, 25, 27, 29] (L' := [(1, .int .i64 a1), (2, .pointer (some ad2)), (13, .bool a0.N), (15, .bool a0.Z), (17, .bool true), (19, .bool a0.V), (25, .bool true), (27, .bool a0.N), (29, .bool a0.V)]) (by kernel_rfl) ?_
   clear hs; intro a hs
   refine go_pvs 18 20 [1, 2, 13, 15, 17, 19, 25, 30, 31] hs (L' := [(1, .int .i64 a1), (2, .pointer (some ad2)), (13, .bool a0.N), (15, .bool a0.Z), (17, .bool true), (19, .bool a0.V), (25, .bool true), (30, .bool (a0.N != a0.V)), (31, .pointer (some ((ad2 : Addr).add 17)))]) (by kernel_rfl) ?_ rfl
   clear hs; intro a hs
   refine go_run hs (op := (Op.load 4 (Operand.tmp 31))) (ty := 4) (dst := some 32) (g := none) (by kernel_rfl) (by kernel_rfl) (by kernel_rfl) (x_ld (E := eSapi_Regs) (off := 17) (p := (ad2 : Addr).add 17) (v := .bool a0.N) (Rd.of_own (hw.up 0)) (one_ok a0).1 (one_ok a0).2 (by kernel_rfl) (one_off _ _ _) (by kernel_rfl) (by kernel_rfl)) [1, 2, 13, 15, 17, 19, 25, 30, 32] (L' := [(1, .int .i64 a1), (2, .pointer (some ad2)), (13, .bool a0.N), (15, .bool a0.Z), (17, .bool true), (19, .bool a0.V), (25, .bool true), (30, .bool (a0.N != a0.V)), (32, .bool a0.N)]) (by kernel_rfl) ?_
   clear hs; intro a hs
   refine go_pvs 21 22 [1, 2, 13, 15, 17, 19, 25, 30, 32, 33] hs (L' := [(1, .int .i64 a1), (2, .pointer (some ad2)), (13, .bool a0.N), (15, .bool a0.Z), (17, .bool true), (19, .bool a0.V), (25, .bool true), (30, .bool (a0.N != a0.V)), (32, .bool a0.N), (33, .pointer (some ((ad2 : Addr).add 20)))]) (by kernel_rfl) ?_ rfl
   clear hs; intro a hs
   refine go_run hs (op := (Op.load 4 (Operand.tmp 33))) (ty := 4) (dst := some 34) (g := none) (by kernel_rfl) (by kernel_rfl) (by kernel_rfl) (x_ld (E := eSapi_Regs) (off := 20) (p := (ad2 : Addr).add 20) (v := .bool a0.V) (Rd.of_own (hw.up 0)) (one_ok a0).1 (one_ok a0).2 (by kernel_rfl) (one_off _ _ _) (by kernel_rfl) (by kernel_rfl)) [1, 2, 13, 15, 17, 19, 25, 30, 32, 34] (L' := [(1, .int .i64 a1), (2, .pointer (some ad2)), (13, .bool a0.N), (15, .bool a0.Z), (17, .bool true), (19, .bool a0.V), (25, .bool true), (30, .bool (a0.N != a0.V)), (32, .bool a0.N), (34, .bool a0.V)]) (by kernel_rfl) ?_
   clear hs; intro a hs
   refine go_pvs 23 25 [1, 2, 13, 15, 17, 19, 25, 30, 36] hs (L' := [(1, .int .i64 a1), (2, .pointer (some ad2)), (13, .bool a0.N), (15, .bool a0.Z), (17, .bool true), (19, .bool a0.V), (25, .bool true), (30, .bool (a0.N != a0.V)), (36, .bool (a0.N != a0.V))]) (by kernel_rfl) ?_ rfl
   clear hs; intro a hs
   cases hb28 : (a0.N != a0.V)
   ·replace H := ite_f H (ff hb28)
    rw [hb28] at hs
    refine go_pvs 25 26 [1, 13, 15, 17, 19, 25, 30, 36, 37] hs (L' := [(1, .int .i64 a1), (13, .bool a0.N), (15, .bool a0.Z), (17, .bool true), (19, .bool a0.V), (25, .bool true), (30, .bool false), (36, .bool false), (37, .pointer (some ((ad2 : Addr).add 18)))]) (by kernel_rfl) ?_ rfl
    clear hs; intro a hs
    refine go_run hs (op := (Op.load 4 (Operand.tmp 37))) (ty := 4) (dst := some 38) (g := some (24, false)) (by kernel_rfl) (by kernel_rfl) (by kernel_rfl) (x_ld (E := eSapi_Regs) (off := 18) (p := (ad2 : Addr).add 18) (v := .bool a0.Z) (Rd.of_own (hw.up 0)) (one_ok a0).1 (one_ok a0).2 (by kernel_rfl) (one_off _ _ _) (by kernel_rfl) (by kernel_rfl)) [1, 13, 15, 17, 19, 25, 30, 36, 38] (L' := [(1, .int .i64 a1), (13, .bool a0.N), (15, .bool a0.Z), (17, .bool true), (19, .bool a0.V), (25, .bool true), (30, .bool false), (36, .bool false), (38, .bool a0.Z)]) (by kernel_rfl) ?_
    clear hs; intro a hs
    refine go_pvs 27 29 [1, 40] hs (L' := [(1, .int .i64 a1), (40, .agg (eA61.enc (#v[a0.N, a0.Z, true, a0.V, true, false, a0.Z, true] : Vector Bool 8)).toArray)]) (by kernel_rfl) ?_ rfl
    clear hs; intro a hs
    obtain ⟨ad29, wd30, hx31, hw⟩ := x_alloc1 (P := Try.prog) (elem := 61) (ty := 0) (z := .agg (eA61.enc (Vector.replicate 8 false)).toArray) hs hw eA61 (Vector.replicate 8 false) (by kernel_rfl) (by kernel_rfl)
    refine go_run hs (op := (Op.alloc 61)) (ty := 0) (dst := some 5) (g := none) (by kernel_rfl) (by kernel_rfl) (by kernel_rfl) hx31 [1, 5, 40] (L' := [(1, .int .i64 a1), (5, .pointer (some ad29)), (40, .agg (eA61.enc (#v[a0.N, a0.Z, true, a0.V, true, false, a0.Z, true] : Vector Bool 8)).toArray)]) (by kernel_rfl) ?_
    clear hs; intro a hs
    obtain ⟨wd33, hx34, hw⟩ := x_put (P := Try.prog) (ty := 0) (t := 61) (x := (Operand.tmp 5)) (y := (Operand.tmp 40)) (off := 0) (p := ad29) (v := .agg (eA61.enc (#v[a0.N, a0.Z, true, a0.V, true, false, a0.Z, true] : Vector Bool 8)).toArray) (vs := (eA61.enc (#v[a0.N, a0.Z, true, a0.V, true, false, a0.Z, true] : Vector Bool 8))) (i := 0) (e' := ((#v[a0.N, a0.Z, true, a0.V, true, false, a0.Z, true] : Vector Bool 8) : Vector Bool 8)) hs hw rfl (one_ok (Vector.replicate 8 false)).1 (one_ok (Vector.replicate 8 false)).2 (by kernel_rfl) (one_at _ _) (by kernel_rfl) rfl (by kernel_rfl) (Nat.le_of_ble_eq_true rfl) (eA61.one _) (by kernel_rfl)
    refine go_unit hs (op := (Op.store 61 (Operand.tmp 5) (Operand.tmp 40))) (ty := 0) (dst := none) (g := none) (by kernel_rfl) (by kernel_rfl) (by kernel_rfl) hx34 [1, 5] (L' := [(1, .int .i64 a1), (5, .pointer (some ad29))]) (by kernel_rfl) ?_
    clear hs; intro a hs
    replace hw : St [] w0 wd33 [own 61 eA61 (some ad29) 1 [(#v[a0.N, a0.Z, true, a0.V, true, false, a0.Z, true] : Vector Bool 8)], own 25 eSapi_Regs (some ad2) 1 [a0]] := hw
    refine go_end (by kernel_rfl) ?_
    replace hw := hw.up 1
    replace hw := hw.only 2
    exact hJ3 ad29 (#v[a0.N, a0.Z, true, a0.V, true, false, a0.Z, true] : Vector Bool 8) _ _ (hs.keep [1, 5] (by kernel_rfl)) hw H
   ·replace H := ite_t H hb28
    rw [hb28] at hs
    refine go_pvs 25 29 [1, 40] hs (L' := [(1, .int .i64 a1), (40, .agg (eA61.enc (#v[a0.N, a0.Z, true, a0.V, true, true, true, true] : Vector Bool 8)).toArray)]) (by kernel_rfl) ?_ rfl
    clear hs; intro a hs
    obtain ⟨ad35, wd36, hx37, hw⟩ := x_alloc1 (P := Try.prog) (elem := 61) (ty := 0) (z := .agg (eA61.enc (Vector.replicate 8 false)).toArray) hs hw eA61 (Vector.replicate 8 false) (by kernel_rfl) (by kernel_rfl)
    refine go_run hs (op := (Op.alloc 61)) (ty := 0) (dst := some 5) (g := none) (by kernel_rfl) (by kernel_rfl) (by kernel_rfl) hx37 [1, 5, 40] (L' := [(1, .int .i64 a1), (5, .pointer (some ad35)), (40, .agg (eA61.enc (#v[a0.N, a0.Z, true, a0.V, true, true, true, true] : Vector Bool 8)).toArray)]) (by kernel_rfl) ?_
    clear hs; intro a hs
    obtain ⟨wd39, hx40, hw⟩ := x_put (P := Try.prog) (ty := 0) (t := 61) (x := (Operand.tmp 5)) (y := (Operand.tmp 40)) (off := 0) (p := ad35) (v := .agg (eA61.enc (#v[a0.N, a0.Z, true, a0.V, true, true, true, true] : Vector Bool 8)).toArray) (vs := (eA61.enc (#v[a0.N, a0.Z, true, a0.V, true, true, true, true] : Vector Bool 8))) (i := 0) (e' := ((#v[a0.N, a0.Z, true, a0.V, true, true, true, true] : Vector Bool 8) : Vector Bool 8)) hs hw rfl (one_ok (Vector.replicate 8 false)).1 (one_ok (Vector.replicate 8 false)).2 (by kernel_rfl) (one_at _ _) (by kernel_rfl) rfl (by kernel_rfl) (Nat.le_of_ble_eq_true rfl) (eA61.one _) (by kernel_rfl)
    refine go_unit hs (op := (Op.store 61 (Operand.tmp 5) (Operand.tmp 40))) (ty := 0) (dst := none) (g := none) (by kernel_rfl) (by kernel_rfl) (by kernel_rfl) hx40 [1, 5] (L' := [(1, .int .i64 a1), (5, .pointer (some ad35))]) (by kernel_rfl) ?_
    clear hs; intro a hs
    replace hw : St [] w0 wd39 [own 61 eA61 (some ad35) 1 [(#v[a0.N, a0.Z, true, a0.V, true, true, true, true] : Vector Bool 8)], own 25 eSapi_Regs (some ad2) 1 [a0]] := hw
    refine go_end (by kernel_rfl) ?_
    replace hw := hw.up 1
    replace hw := hw.only 2
    exact hJ3 ad35 (#v[a0.N, a0.Z, true, a0.V, true, true, true, true] : Vector Bool 8) _ _ (hs.keep [1, 5] (by kernel_rfl)) hw H
 refine go_seq_k fun K7 hK7 => ?_
 have hJ1 : ∀ (v9 : Bool) (a : Act) (w : World), Slots a 48 [(1, .int .i64 a1), (2, .pointer (some ad2)), (11, .bool v9)] → St [] w0 w [own 25 eSapi_Regs (some ad2) 1 [a0]] → rivetref04_Taken.j1 a0 a1 v9 = some r → K7 a w := by
  intro v9 a w hs hw H
  unfold rivetref04_Taken.j1 at H
  refine hK7 _ _ ?_
  refine go_cond hs v9 (by kernel_rfl) (fun hc => ?_) (fun hc => ?_)
  ·replace H := ite_t H hc
   have hb10 := hc
   rw [hb10] at hs
   refine go_seq_k fun K11 hK11 => ?_
   refine go_region ?_
   refine go_pvs 0 1 [4] hs (L' := [(4, .bool false)]) (by kernel_rfl) ?_ rfl
   clear hs; intro a hs
   refine go_end (by kernel_rfl) ?_
   refine hK11 _ _ ?_
   refine wp_ret ?_
   refine th_ret ?_
   obtain rfl := Option.some.inj H
   refine ret1 (t := 4) (v := .bool false) hs (by kernel_rfl) (by kernel_rfl) ?_
   exact ⟨rfl, hw.only 0⟩
  ·replace H := ite_f H (ff hc)
   have hb12 := hc
   rw [hb12] at hs
   refine wp_skip ?_
   replace hw := hw.only 1
   exact hJ2 _ _ (hs.keep [1, 2] (by kernel_rfl)) hw H
 refine go_region ?_
 refine go_pvs 0 3 [1, 2, 8] hs (L' := [(1, .int .i64 a1), (2, .pointer (some ad2)), (8, .bool (decide (a1 < 0)))]) (by kernel_rfl) ?_ rfl
 clear hs; intro a hs
 cases hb8 : (decide (a1 < 0))
 ·replace H := ite_f H (of_decide_eq_false hb8)
  rw [hb8] at hs
  refine go_pvs 3 6 [1, 2, 11] hs (L' := [(1, .int .i64 a1), (2, .pointer (some ad2)), (11, .bool (decide (a1 > 15)))]) (by kernel_rfl) ?_ rfl
  clear hs; intro a hs
  refine go_end (by kernel_rfl) ?_
  replace hw := hw.only 1
  exact hJ1 (decide (a1 > 15)) _ _ (hs.keep [1, 2, 11] (by kernel_rfl)) hw H
 ·replace H := ite_t H (of_decide_eq_true hb8)
  rw [hb8] at hs
  refine go_pvs 3 6 [1, 2, 11] hs (L' := [(1, .int .i64 a1), (2, .pointer (some ad2)), (11, .bool true)]) (by kernel_rfl) ?_ rfl
  clear hs; intro a hs
  refine go_end (by kernel_rfl) ?_
  replace hw := hw.only 1
  exact hJ1 true _ _ (hs.keep [1, 2, 11] (by kernel_rfl)) hw H

end Go.Proofs.Ytckefpenekolhaa.T04
