/- YtckefpenekolhaaT04: Go functions told as plain ones, each with a proof that its call comes to what is told, part 6. Condition of each: that the plain function comes to a value. -/
import Derived.Test.YtckefpenekolhaaT04e
namespace Go.Proofs.Ytckefpenekolhaa.T04
open Go Go.RowKit Go.Proofs.Ytckefpenekolhaa.E
set_option linter.unusedVariables false
set_option linter.unusedSimpArgs false

/-! rivet/rivetref04.Do: function 14 -/
noncomputable def rivetref04_Do.j4 (a1 : Sapi_Instr) (v174 : Sapi_Regs) (v175 : Int) : Option (Sapi_Regs × Int) := (if 0 ≤ a1.A ∧ a1.A < ((16 : Nat) : Int) then ((rivetref04_Show ({ v174 with R := vset v174.R (a1.A : Int).toNat v175 } : Sapi_Regs) v175).bind fun t182 => (some ((t182 : Sapi_Regs), 0))) else none)
noncomputable def rivetref04_Do.j3 (a1 : Sapi_Instr) (a0 : Sapi_Regs) (v38 : Int) : Option (Sapi_Regs × Int) := (if a1.Kind = 3 then rivetref04_Do.j4 a1 (a0 : Sapi_Regs) a0.H else (if a1.Kind = 4 then ((rivetref04_bit a0.N 31).bind fun t54 => (((rivetref04_bit a0.Z 30).bind fun t57 => (((rivetref04_bit a0.C 29).bind fun t60 => (((rivetref04_bit a0.V 28).bind fun t63 => (rivetref04_Do.j4 a1 (a0 : Sapi_Regs) (bor .u32 (bor .u32 (bor .u32 t54 t57) t60) t63))))))))) else (if a1.Op = 0 then (if a1.U = true then rivetref04_Do.j4 a1 (a0 : Sapi_Regs) (wu32 (v38 * 2 ^ 16)) else rivetref04_Do.j4 a1 (a0 : Sapi_Regs) v38) else (if a1.Op ≤ 3 then ((rivetref01_Shift a1.Op (vx 0 a0.R (a1.B : Int).toNat) v38).bind fun t76 => (rivetref04_Do.j4 a1 (a0 : Sapi_Regs) t76)) else (if a1.Op = 4 then rivetref04_Do.j4 a1 (a0 : Sapi_Regs) (band .u32 (vx 0 a0.R (a1.B : Int).toNat) v38) else (if a1.Op = 5 then rivetref04_Do.j4 a1 (a0 : Sapi_Regs) (band .u32 (vx 0 a0.R (a1.B : Int).toNat) (wu32 (4294967295 - v38))) else (if a1.Op = 6 then rivetref04_Do.j4 a1 (a0 : Sapi_Regs) (bor .u32 (vx 0 a0.R (a1.B : Int).toNat) v38) else (if a1.Op = 7 then rivetref04_Do.j4 a1 (a0 : Sapi_Regs) (wu32 ((bor .u32 (vx 0 a0.R (a1.B : Int).toNat) v38) - (band .u32 (vx 0 a0.R (a1.B : Int).toNat) v38))) else (if a1.Op = 8 then (if a1.U = true then ((rivetref01_Add (vx 0 a0.R (a1.B : Int).toNat) v38 a0.C).bind fun ⟨t108, t109, t110⟩ => (rivetref04_Do.j4 a1 ({ ({ (a0 : Sapi_Regs) with C := t109 } : Sapi_Regs) with V := t110 } : Sapi_Regs) t108)) else ((rivetref01_Add (vx 0 a0.R (a1.B : Int).toNat) v38 false).bind fun ⟨t97, t98, t99⟩ => (rivetref04_Do.j4 a1 ({ ({ (a0 : Sapi_Regs) with C := t98 } : Sapi_Regs) with V := t99 } : Sapi_Regs) t97))) else (if a1.Op = 9 then (if a1.U = true then ((rivetref01_Sub (vx 0 a0.R (a1.B : Int).toNat) v38 a0.C).bind fun ⟨t134, t135, t136⟩ => (rivetref04_Do.j4 a1 ({ ({ (a0 : Sapi_Regs) with C := t135 } : Sapi_Regs) with V := t136 } : Sapi_Regs) t134)) else ((rivetref01_Sub (vx 0 a0.R (a1.B : Int).toNat) v38 false).bind fun ⟨t123, t124, t125⟩ => (rivetref04_Do.j4 a1 ({ ({ (a0 : Sapi_Regs) with C := t124 } : Sapi_Regs) with V := t125 } : Sapi_Regs) t123))) else (if a1.Op = 10 then ((rivetref01_Mul (vx 0 a0.R (a1.B : Int).toNat) v38 a1.U).bind fun ⟨t148, t149⟩ => (rivetref04_Do.j4 a1 ({ (a0 : Sapi_Regs) with H := t149 } : Sapi_Regs) t148)) else ((rivetref01_Div (vx 0 a0.R (a1.B : Int).toNat) v38).bind fun ⟨t158, t159, t160⟩ => ((if t160 = true then rivetref04_Do.j4 a1 ({ (a0 : Sapi_Regs) with H := t159 } : Sapi_Regs) t158 else some ((a0 : Sapi_Regs), 5)))))))))))))))
noncomputable def rivetref04_Do.j2 (a1 : Sapi_Instr) (a0 : Sapi_Regs) : Option (Sapi_Regs × Int) := (if 0 ≤ a1.B ∧ a1.B < ((16 : Nat) : Int) then (if 0 ≤ a1.C ∧ a1.C < ((16 : Nat) : Int) then (if a1.Kind = 2 then rivetref04_Do.j3 a1 a0 (wu32 a1.Imm) else rivetref04_Do.j3 a1 a0 (vx 0 a0.R (a1.C : Int).toNat)) else none) else none)
noncomputable def rivetref04_Do.j1 (a0 : Sapi_Regs) (a1 : Sapi_Instr) (v24 : Bool) : Option (Sapi_Regs × Int) := (if v24 = true then some ((a0 : Sapi_Regs), 0) else rivetref04_Do.j2 a1 a0)
noncomputable def rivetref04_Do (a0 : Sapi_Regs) (a1 : Sapi_Instr) : Option (Sapi_Regs × Int) := ((rivetref03_May a1).bind fun t17 => ((if t17 = true then (if a1.Kind = 5 then rivetref04_Do.j1 a0 a1 true else (if a1.Kind = 6 then rivetref04_Do.j1 a0 a1 true else rivetref04_Do.j1 a0 a1 (a1.Kind == 7))) else rivetref04_Do.j1 a0 a1 true)))
set_option maxRecDepth 100000 in
set_option maxHeartbeats 4000000 in
theorem rivetref04_Do.calls (a0 : Sapi_Regs) (a1 : Sapi_Instr) (r : Sapi_Regs × Int) (w0 : World) (H : rivetref04_Do a0 a1 = some r) :
    Calls Try.prog 14 #[.agg (eSapi_Regs.enc a0).toArray, .agg (eSapi_Instr.enc a1).toArray] w0 fun e w' => e = .returned (.tuple #[.agg (eSapi_Regs.enc r.1).toArray, .int .i64 r.2]) ∧ St [] w0 w' [] := by
 have hw : St [] w0 w0 [] := St.nil w0
 unfold rivetref04_Do at H
 refine go_fn Try.func14 rfl 197 Try.ntmps14 [(0, .agg (eSapi_Regs.enc a0).toArray), (1, .agg (eSapi_Instr.enc a1).toArray)] (by kernel_rfl) rfl ?_
 intro a hs
 refine go_seq_k fun K1 hK1 => ?_
 refine go_region ?_
 obtain ⟨ad2, wd3, hx4, hw⟩ := x_box1 (P := Try.prog) (elem := 25) (v := (Operand.tmp 0)) (ty := 0) hs hw eSapi_Regs a0 (by kernel_rfl)
 refine go_run hs (op := (Op.box 25 (Operand.tmp 0))) (ty := 0) (dst := some 2) (g := none) (by kernel_rfl) (by kernel_rfl) (by kernel_rfl) hx4 [1, 2] (L' := [(1, .agg (eSapi_Instr.enc a1).toArray), (2, .pointer (some ad2))]) (by kernel_rfl) ?_
 clear hs; intro a hs
 obtain ⟨ad6, wd7, hx8, hw⟩ := x_box1 (P := Try.prog) (elem := 27) (v := (Operand.tmp 1)) (ty := 0) hs hw eSapi_Instr a1 (by kernel_rfl)
 refine go_run hs (op := (Op.box 27 (Operand.tmp 1))) (ty := 0) (dst := some 3) (g := none) (by kernel_rfl) (by kernel_rfl) (by kernel_rfl) hx8 [2, 3] (L' := [(2, .pointer (some ad2)), (3, .pointer (some ad6))]) (by kernel_rfl) ?_
 clear hs; intro a hs
 obtain ⟨ad10, wd11, hx12, hw⟩ := x_alloc1 (P := Try.prog) (elem := 25) (ty := 0) (z := .agg (eSapi_Regs.enc (⟨(Vector.replicate 16 0), 0, false, false, false, false⟩ : Sapi_Regs)).toArray) hs hw eSapi_Regs (⟨(Vector.replicate 16 0), 0, false, false, false, false⟩ : Sapi_Regs) (by kernel_rfl) (by kernel_rfl)
 refine go_run hs (op := (Op.alloc 25)) (ty := 0) (dst := some 4) (g := none) (by kernel_rfl) (by kernel_rfl) (by kernel_rfl) hx12 [2, 3, 4] (L' := [(2, .pointer (some ad2)), (3, .pointer (some ad6)), (4, .pointer (some ad10))]) (by kernel_rfl) ?_
 clear hs; intro a hs
 refine go_pvs 3 4 [2, 3, 4] hs (L' := [(2, .pointer (some ad2)), (3, .pointer (some ad6)), (4, .pointer (some ad10))]) (by kernel_rfl) ?_ rfl
 clear hs; intro a hs
 refine go_end (by kernel_rfl) ?_
 refine hK1 _ _ ?_
 refine go_seq_k fun K14 hK14 => ?_
 have hJ2 : ∀ (a : Act) (w : World), Slots a 197 [(2, .pointer (some ad2)), (3, .pointer (some ad6)), (4, .pointer (some ad10))] → St [] w0 w [own 25 eSapi_Regs (some ad10) 1 [(⟨(Vector.replicate 16 0), 0, false, false, false, false⟩ : Sapi_Regs)], own 27 eSapi_Instr (some ad6) 1 [a1], own 25 eSapi_Regs (some ad2) 1 [a0]] → rivetref04_Do.j2 a1 a0 = some r → K14 a w := by
  intro a w hs hw H
  unfold rivetref04_Do.j2 at H
  refine hK14 _ _ ?_
  refine go_seq_k fun K30 hK30 => ?_
  refine go_region ?_
  refine go_pvs 0 1 [2, 3, 4, 32] hs (L' := [(2, .pointer (some ad2)), (3, .pointer (some ad6)), (4, .pointer (some ad10)), (32, .pointer (some ((ad6 : Addr).add 3)))]) (by kernel_rfl) ?_ rfl
  clear hs; intro a hs
  refine go_run hs (op := (Op.load 3 (Operand.tmp 32))) (ty := 3) (dst := some 33) (g := none) (by kernel_rfl) (by kernel_rfl) (by kernel_rfl) (x_ld (E := eSapi_Instr) (off := 3) (p := (ad6 : Addr).add 3) (v := .int .i64 a1.B) (Rd.of_own (hw.up 1)) (one_ok a1).1 (one_ok a1).2 (by kernel_rfl) (one_off _ _ _) (by kernel_rfl) (by kernel_rfl)) [2, 3, 4, 33] (L' := [(2, .pointer (some ad2)), (3, .pointer (some ad6)), (4, .pointer (some ad10)), (33, .int .i64 a1.B)]) (by kernel_rfl) ?_
  clear hs; intro a hs
  refine go_pvs 2 3 [2, 3, 4, 33, 34] hs (L' := [(2, .pointer (some ad2)), (3, .pointer (some ad6)), (4, .pointer (some ad10)), (33, .int .i64 a1.B), (34, .pointer (some ((ad2 : Addr).add 0)))]) (by kernel_rfl) ?_ rfl
  clear hs; intro a hs
  obtain ⟨hp31, H⟩ := ite_only H
  refine go_run hs (op := (Op.indexAddr 23 (Operand.tmp 34) (Operand.tmp 33))) (ty := 0) (dst := some 35) (g := none) (by kernel_rfl) (by kernel_rfl) (by kernel_rfl) (x_vidx (e := 22) (p := (ad2 : Addr).add 0) (n := 16) (k := .i64) (i := a1.B) (sz := 1) (by kernel_rfl) (by kernel_rfl) (by kernel_rfl) (by kernel_rfl) hp31.1 hp31.2) [2, 3, 4, 35] (L' := [(2, .pointer (some ad2)), (3, .pointer (some ad6)), (4, .pointer (some ad10)), (35, .pointer (some (((ad2 : Addr).add 0 : Addr).add ((a1.B : Int).toNat * 1))))]) (by kernel_rfl) ?_
  clear hs; intro a hs
  refine go_run hs (op := (Op.load 22 (Operand.tmp 35))) (ty := 22) (dst := some 36) (g := none) (by kernel_rfl) (by kernel_rfl) (by kernel_rfl) (x_ld (E := eSapi_Regs) (off := 0 + (a1.B : Int).toNat * 1) (p := ((ad2 : Addr).add 0 : Addr).add ((a1.B : Int).toNat * 1)) (v := .int .u32 (vx 0 a0.R (a1.B : Int).toNat)) (Rd.of_own (hw.up 2)) (one_ok a0).1 (one_ok a0).2 (by kernel_rfl) (by simp only [add_add', Int.toNat_zero, Nat.zero_mul, Nat.zero_add, Nat.mul_one] <;> rfl) (by kernel_rfl) (vget (cs := eSapi_Regs.enc a0) (pre := []) (post := [.int .u32 a0.H, .bool a0.N, .bool a0.Z, .bool a0.C, .bool a0.V]) (f := (fun j : Nat => .int .u32 (vx 0 a0.R j))) (n := 16) (o := 0) (i := (a1.B : Int).toNat) (by kernel_rfl) rfl (by have := hp31; omega))) [2, 3, 4, 36] (L' := [(2, .pointer (some ad2)), (3, .pointer (some ad6)), (4, .pointer (some ad10)), (36, .int .u32 (vx 0 a0.R (a1.B : Int).toNat))]) (by kernel_rfl) ?_
  clear hs; intro a hs
  refine go_pvs 5 6 [2, 3, 4, 6] hs (L' := [(2, .pointer (some ad2)), (3, .pointer (some ad6)), (4, .pointer (some ad10)), (6, .int .u32 (vx 0 a0.R (a1.B : Int).toNat))]) (by kernel_rfl) ?_ rfl
  clear hs; intro a hs
  refine go_end (by kernel_rfl) ?_
  refine hK30 _ _ ?_
  refine go_seq_k fun K32 hK32 => ?_
  refine go_region ?_
  refine go_pvs 0 1 [2, 3, 4, 6, 37] hs (L' := [(2, .pointer (some ad2)), (3, .pointer (some ad6)), (4, .pointer (some ad10)), (6, .int .u32 (vx 0 a0.R (a1.B : Int).toNat)), (37, .pointer (some ((ad6 : Addr).add 4)))]) (by kernel_rfl) ?_ rfl
  clear hs; intro a hs
  refine go_run hs (op := (Op.load 3 (Operand.tmp 37))) (ty := 3) (dst := some 38) (g := none) (by kernel_rfl) (by kernel_rfl) (by kernel_rfl) (x_ld (E := eSapi_Instr) (off := 4) (p := (ad6 : Addr).add 4) (v := .int .i64 a1.C) (Rd.of_own (hw.up 1)) (one_ok a1).1 (one_ok a1).2 (by kernel_rfl) (one_off _ _ _) (by kernel_rfl) (by kernel_rfl)) [2, 3, 4, 6, 38] (L' := [(2, .pointer (some ad2)), (3, .pointer (some ad6)), (4, .pointer (some ad10)), (6, .int .u32 (vx 0 a0.R (a1.B : Int).toNat)), (38, .int .i64 a1.C)]) (by kernel_rfl) ?_
  clear hs; intro a hs
  refine go_pvs 2 3 [2, 3, 4, 6, 38, 39] hs (L' := [(2, .pointer (some ad2)), (3, .pointer (some ad6)), (4, .pointer (some ad10)), (6, .int .u32 (vx 0 a0.R (a1.B : Int).toNat)), (38, .int .i64 a1.C), (39, .pointer (some ((ad2 : Addr).add 0)))]) (by kernel_rfl) ?_ rfl
  clear hs; intro a hs
  obtain ⟨hp33, H⟩ := ite_only H
  refine go_run hs (op := (Op.indexAddr 23 (Operand.tmp 39) (Operand.tmp 38))) (ty := 0) (dst := some 40) (g := none) (by kernel_rfl) (by kernel_rfl) (by kernel_rfl) (x_vidx (e := 22) (p := (ad2 : Addr).add 0) (n := 16) (k := .i64) (i := a1.C) (sz := 1) (by kernel_rfl) (by kernel_rfl) (by kernel_rfl) (by kernel_rfl) hp33.1 hp33.2) [2, 3, 4, 6, 40] (L' := [(2, .pointer (some ad2)), (3, .pointer (some ad6)), (4, .pointer (some ad10)), (6, .int .u32 (vx 0 a0.R (a1.B : Int).toNat)), (40, .pointer (some (((ad2 : Addr).add 0 : Addr).add ((a1.C : Int).toNat * 1))))]) (by kernel_rfl) ?_
  clear hs; intro a hs
  refine go_run hs (op := (Op.load 22 (Operand.tmp 40))) (ty := 22) (dst := some 41) (g := none) (by kernel_rfl) (by kernel_rfl) (by kernel_rfl) (x_ld (E := eSapi_Regs) (off := 0 + (a1.C : Int).toNat * 1) (p := ((ad2 : Addr).add 0 : Addr).add ((a1.C : Int).toNat * 1)) (v := .int .u32 (vx 0 a0.R (a1.C : Int).toNat)) (Rd.of_own (hw.up 2)) (one_ok a0).1 (one_ok a0).2 (by kernel_rfl) (by simp only [add_add', Int.toNat_zero, Nat.zero_mul, Nat.zero_add, Nat.mul_one] <;> rfl) (by kernel_rfl) (vget (cs := eSapi_Regs.enc a0) (pre := []) (post := [.int .u32 a0.H, .bool a0.N, .bool a0.Z, .bool a0.C, .bool a0.V]) (f := (fun j : Nat => .int .u32 (vx 0 a0.R j))) (n := 16) (o := 0) (i := (a1.C : Int).toNat) (by kernel_rfl) rfl (by have := hp33; omega))) [2, 3, 4, 6, 41] (L' := [(2, .pointer (some ad2)), (3, .pointer (some ad6)), (4, .pointer (some ad10)), (6, .int .u32 (vx 0 a0.R (a1.B : Int).toNat)), (41, .int .u32 (vx 0 a0.R (a1.C : Int).toNat))]) (by kernel_rfl) ?_
  clear hs; intro a hs
  refine go_pvs 5 6 [2, 3, 4, 6, 7] hs (L' := [(2, .pointer (some ad2)), (3, .pointer (some ad6)), (4, .pointer (some ad10)), (6, .int .u32 (vx 0 a0.R (a1.B : Int).toNat)), (7, .int .u32 (vx 0 a0.R (a1.C : Int).toNat))]) (by kernel_rfl) ?_ rfl
  clear hs; intro a hs
  refine go_end (by kernel_rfl) ?_
  refine hK32 _ _ ?_
  refine go_seq_k fun K34 hK34 => ?_
  have hJ3 : ∀ (v38 : Int) (a : Act) (w : World), Slots a 197 [(2, .pointer (some ad2)), (3, .pointer (some ad6)), (4, .pointer (some ad10)), (6, .int .u32 (vx 0 a0.R (a1.B : Int).toNat)), (7, .int .u32 v38)] → St [] w0 w [own 25 eSapi_Regs (some ad10) 1 [(⟨(Vector.replicate 16 0), 0, false, false, false, false⟩ : Sapi_Regs)], own 27 eSapi_Instr (some ad6) 1 [a1], own 25 eSapi_Regs (some ad2) 1 [a0]] → rivetref04_Do.j3 a1 a0 v38 = some r → K34 a w := by
   intro v38 a w hs hw H
   unfold rivetref04_Do.j3 at H
   refine hK34 _ _ ?_
   refine go_seq_k fun K39 hK39 => ?_
   refine go_region ?_
   refine go_pvs 0 1 [2, 3, 4, 6, 7] hs (L' := [(2, .pointer (some ad2)), (3, .pointer (some ad6)), (4, .pointer (some ad10)), (6, .int .u32 (vx 0 a0.R (a1.B : Int).toNat)), (7, .int .u32 v38)]) (by kernel_rfl) ?_ rfl
   clear hs; intro a hs
   refine go_end (by kernel_rfl) ?_
   refine hK39 _ _ ?_
   refine go_seq_k fun K40 hK40 => ?_
   refine go_region ?_
   refine go_run hs (op := (Op.load 25 (Operand.tmp 2))) (ty := 25) (dst := some 48) (g := none) (by kernel_rfl) (by kernel_rfl) (by kernel_rfl) (x_lds (E := eSapi_Regs) (off := 0) (p := ad2) (cs := (eSapi_Regs.enc a0)) (Rd.of_own (hw.up 2)) (one_ok a0).1 (one_ok a0).2 (by kernel_rfl) (one_at _ _) (by kernel_rfl) (by kernel_rfl) (by kernel_rfl)) [2, 3, 4, 6, 7, 48] (L' := [(2, .pointer (some ad2)), (3, .pointer (some ad6)), (4, .pointer (some ad10)), (6, .int .u32 (vx 0 a0.R (a1.B : Int).toNat)), (7, .int .u32 v38), (48, .agg (eSapi_Regs.enc a0).toArray)]) (by kernel_rfl) ?_
   clear hs; intro a hs
   obtain ⟨ad41, wd42, hx43, hw⟩ := x_alloc1 (P := Try.prog) (elem := 25) (ty := 0) (z := .agg (eSapi_Regs.enc (⟨(Vector.replicate 16 0), 0, false, false, false, false⟩ : Sapi_Regs)).toArray) hs hw eSapi_Regs (⟨(Vector.replicate 16 0), 0, false, false, false, false⟩ : Sapi_Regs) (by kernel_rfl) (by kernel_rfl)
   refine go_run hs (op := (Op.alloc 25)) (ty := 0) (dst := some 9) (g := none) (by kernel_rfl) (by kernel_rfl) (by kernel_rfl) hx43 [2, 3, 4, 6, 7, 9, 48] (L' := [(2, .pointer (some ad2)), (3, .pointer (some ad6)), (4, .pointer (some ad10)), (6, .int .u32 (vx 0 a0.R (a1.B : Int).toNat)), (7, .int .u32 v38), (9, .pointer (some ad41)), (48, .agg (eSapi_Regs.enc a0).toArray)]) (by kernel_rfl) ?_
   clear hs; intro a hs
   obtain ⟨wd45, hx46, hw⟩ := x_put (P := Try.prog) (ty := 0) (t := 25) (x := (Operand.tmp 9)) (y := (Operand.tmp 48)) (off := 0) (p := ad41) (v := .agg (eSapi_Regs.enc a0).toArray) (vs := (eSapi_Regs.enc a0)) (i := 0) (e' := ((a0 : Sapi_Regs) : Sapi_Regs)) hs hw rfl (one_ok (⟨(Vector.replicate 16 0), 0, false, false, false, false⟩ : Sapi_Regs)).1 (one_ok (⟨(Vector.replicate 16 0), 0, false, false, false, false⟩ : Sapi_Regs)).2 (by kernel_rfl) (one_at _ _) (by kernel_rfl) rfl (by kernel_rfl) (Nat.le_of_ble_eq_true rfl) (eSapi_Regs.one _) (by kernel_rfl)
   refine go_unit hs (op := (Op.store 25 (Operand.tmp 9) (Operand.tmp 48))) (ty := 0) (dst := none) (g := none) (by kernel_rfl) (by kernel_rfl) (by kernel_rfl) hx46 [2, 3, 4, 6, 7, 9] (L' := [(2, .pointer (some ad2)), (3, .pointer (some ad6)), (4, .pointer (some ad10)), (6, .int .u32 (vx 0 a0.R (a1.B : Int).toNat)), (7, .int .u32 v38), (9, .pointer (some ad41))]) (by kernel_rfl) ?_
   clear hs; intro a hs
   replace hw : St [] w0 wd45 [own 25 eSapi_Regs (some ad41) 1 [(a0 : Sapi_Regs)], own 25 eSapi_Regs (some ad10) 1 [(⟨(Vector.replicate 16 0), 0, false, false, false, false⟩ : Sapi_Regs)], own 27 eSapi_Instr (some ad6) 1 [a1], own 25 eSapi_Regs (some ad2) 1 [a0]] := hw
   refine go_end (by kernel_rfl) ?_
   refine hK40 _ _ ?_
   refine go_seq_k fun K47 hK47 => ?_
   have hJ4 : ∀ (v174 : Sapi_Regs) (v175 : Int) (a : Act) (w : World), Slots a 197 [(3, .pointer (some ad6)), (4, .pointer (some ad10)), (8, .int .u32 v175), (9, .pointer (some ad41))] → St [] w0 w [own 25 eSapi_Regs (some ad41) 1 [v174], own 25 eSapi_Regs (some ad10) 1 [(⟨(Vector.replicate 16 0), 0, false, false, false, false⟩ : Sapi_Regs)], own 27 eSapi_Instr (some ad6) 1 [a1], own 25 eSapi_Regs (some ad2) 1 [a0]] → rivetref04_Do.j4 a1 v174 v175 = some r → K47 a w := by
    intro v174 v175 a w hs hw H
    unfold rivetref04_Do.j4 at H
    refine hK47 _ _ ?_
    refine go_seq_k fun K176 hK176 => ?_
    refine go_region ?_
    refine go_pvs 0 1 [4, 8, 9, 189] hs (L' := [(4, .pointer (some ad10)), (8, .int .u32 v175), (9, .pointer (some ad41)), (189, .pointer (some ((ad6 : Addr).add 2)))]) (by kernel_rfl) ?_ rfl
    clear hs; intro a hs
    refine go_run hs (op := (Op.load 3 (Operand.tmp 189))) (ty := 3) (dst := some 190) (g := none) (by kernel_rfl) (by kernel_rfl) (by kernel_rfl) (x_ld (E := eSapi_Instr) (off := 2) (p := (ad6 : Addr).add 2) (v := .int .i64 a1.A) (Rd.of_own (hw.up 2)) (one_ok a1).1 (one_ok a1).2 (by kernel_rfl) (one_off _ _ _) (by kernel_rfl) (by kernel_rfl)) [4, 8, 9, 190] (L' := [(4, .pointer (some ad10)), (8, .int .u32 v175), (9, .pointer (some ad41)), (190, .int .i64 a1.A)]) (by kernel_rfl) ?_
    clear hs; intro a hs
    refine go_pvs 2 4 [4, 8, 9, 190, 191, 192] hs (L' := [(4, .pointer (some ad10)), (8, .int .u32 v175), (9, .pointer (some ad41)), (190, .int .i64 a1.A), (191, .int .u32 v175), (192, .pointer (some ((ad41 : Addr).add 0)))]) (by kernel_rfl) ?_ rfl
    clear hs; intro a hs
    obtain ⟨hp177, H⟩ := ite_only H
    refine go_run hs (op := (Op.indexAddr 23 (Operand.tmp 192) (Operand.tmp 190))) (ty := 0) (dst := some 193) (g := none) (by kernel_rfl) (by kernel_rfl) (by kernel_rfl) (x_vidx (e := 22) (p := (ad41 : Addr).add 0) (n := 16) (k := .i64) (i := a1.A) (sz := 1) (by kernel_rfl) (by kernel_rfl) (by kernel_rfl) (by kernel_rfl) hp177.1 hp177.2) [4, 8, 9, 191, 193] (L' := [(4, .pointer (some ad10)), (8, .int .u32 v175), (9, .pointer (some ad41)), (191, .int .u32 v175), (193, .pointer (some (((ad41 : Addr).add 0 : Addr).add ((a1.A : Int).toNat * 1))))]) (by kernel_rfl) ?_
    clear hs; intro a hs
    obtain ⟨wd178, hx179, hw⟩ := x_put (P := Try.prog) (ty := 0) (t := 22) (x := (Operand.tmp 193)) (y := (Operand.tmp 191)) (off := 0 + (a1.A : Int).toNat * 1) (p := ((ad41 : Addr).add 0 : Addr).add ((a1.A : Int).toNat * 1)) (v := .int .u32 v175) (vs := [.int .u32 v175]) (i := 0) (e' := (({ v174 with R := vset v174.R (a1.A : Int).toNat v175 } : Sapi_Regs) : Sapi_Regs)) hs hw rfl (one_ok (a0 : Sapi_Regs)).1 (one_ok (a0 : Sapi_Regs)).2 (by kernel_rfl) (by simp only [add_add', Int.toNat_zero, Nat.zero_mul, Nat.zero_add, Nat.mul_one] <;> rfl) (by kernel_rfl) rfl (by kernel_rfl) (by have := hp177; show 0 + _ * 1 + 1 ≤ 21; omega) (by simp [Value.oneCell']) (vput (cs := eSapi_Regs.enc v174) (cs' := eSapi_Regs.enc ({ v174 with R := vset v174.R (a1.A : Int).toNat v175 } : Sapi_Regs)) (pre := []) (post := [.int .u32 v174.H, .bool v174.N, .bool v174.Z, .bool v174.C, .bool v174.V]) (f := (fun j : Nat => .int .u32 (vx 0 v174.R j))) (f' := (fun j : Nat => .int .u32 (vx 0 (vset v174.R (a1.A : Int).toNat v175) j))) (n := 16) (o := 0) (i := (a1.A : Int).toNat) (v := .int .u32 v175) (by kernel_rfl) (by kernel_rfl) rfl (by have := hp177; omega) (vx_put (by have := hp177; omega)))
    refine go_unit hs (op := (Op.store 22 (Operand.tmp 193) (Operand.tmp 191))) (ty := 0) (dst := none) (g := none) (by kernel_rfl) (by kernel_rfl) (by kernel_rfl) hx179 [4, 8, 9] (L' := [(4, .pointer (some ad10)), (8, .int .u32 v175), (9, .pointer (some ad41))]) (by kernel_rfl) ?_
    clear hs; intro a hs
    replace hw : St [] w0 wd178 [own 25 eSapi_Regs (some ad41) 1 [({ v174 with R := vset v174.R (a1.A : Int).toNat v175 } : Sapi_Regs)], own 25 eSapi_Regs (some ad10) 1 [(⟨(Vector.replicate 16 0), 0, false, false, false, false⟩ : Sapi_Regs)], own 27 eSapi_Instr (some ad6) 1 [a1], own 25 eSapi_Regs (some ad2) 1 [a0]] := hw
    refine go_end (by kernel_rfl) ?_
    refine hK176 _ _ ?_
    refine go_seq_k fun K180 hK180 => ?_
    refine go_region ?_
    refine go_run hs (op := (Op.load 25 (Operand.tmp 9))) (ty := 25) (dst := some 194) (g := none) (by kernel_rfl) (by kernel_rfl) (by kernel_rfl) (x_lds (E := eSapi_Regs) (off := 0) (p := ad41) (cs := (eSapi_Regs.enc ({ v174 with R := vset v174.R (a1.A : Int).toNat v175 } : Sapi_Regs))) (Rd.of_own (hw.up 0)) (one_ok ({ v174 with R := vset v174.R (a1.A : Int).toNat v175 } : Sapi_Regs)).1 (one_ok ({ v174 with R := vset v174.R (a1.A : Int).toNat v175 } : Sapi_Regs)).2 (by kernel_rfl) (one_at _ _) (by kernel_rfl) (by kernel_rfl) (by kernel_rfl)) [4, 8, 194] (L' := [(4, .pointer (some ad10)), (8, .int .u32 v175), (194, .agg (eSapi_Regs.enc ({ v174 with R := vset v174.R (a1.A : Int).toNat v175 } : Sapi_Regs)).toArray)]) (by kernel_rfl) ?_
    clear hs; intro a hs
    refine go_pvs 1 2 [4, 194, 195] hs (L' := [(4, .pointer (some ad10)), (194, .agg (eSapi_Regs.enc ({ v174 with R := vset v174.R (a1.A : Int).toNat v175 } : Sapi_Regs)).toArray), (195, .int .u32 v175)]) (by kernel_rfl) ?_ rfl
    clear hs; intro a hs
    obtain ⟨t182, hx183, H⟩ := bind_some H
    refine go_call hs (op := (Op.call { callee := (Callee.value (Operand.func 27)), args := #[(Operand.tmp 194), (Operand.tmp 195)], argTypes := #[25, 22] })) (ty := 25) (dst := some 196) (g := none) (by kernel_rfl) (by kernel_rfl) (by kernel_rfl) (f := 27) (args := #[.agg (eSapi_Regs.enc ({ v174 with R := vset v174.R (a1.A : Int).toNat v175 } : Sapi_Regs)).toArray, .int .u32 v175]) (by kernel_rfl) (rivetref04_Show.calls ({ v174 with R := vset v174.R (a1.A : Int).toNat v175 } : Sapi_Regs) v175 t182 _ hx183) ?_
    rintro e wd184 ⟨rfl, hw185⟩
    refine ⟨_, rfl, ?_⟩
    replace hw := hw.call hw185
    intro a hs1
    replace hs : Slots a 197 [(4, .pointer (some ad10)), (196, .agg (eSapi_Regs.enc t182).toArray)] := hs1.keep [4, 196] (by kernel_rfl)
    clear hs1
    replace hw := hw.up 1
    obtain ⟨wd186, hx187, hw⟩ := x_put (P := Try.prog) (ty := 0) (t := 25) (x := (Operand.tmp 4)) (y := (Operand.tmp 196)) (off := 0) (p := ad10) (v := .agg (eSapi_Regs.enc t182).toArray) (vs := (eSapi_Regs.enc t182)) (i := 0) (e' := ((t182 : Sapi_Regs) : Sapi_Regs)) hs hw rfl (one_ok (⟨(Vector.replicate 16 0), 0, false, false, false, false⟩ : Sapi_Regs)).1 (one_ok (⟨(Vector.replicate 16 0), 0, false, false, false, false⟩ : Sapi_Regs)).2 (by kernel_rfl) (one_at _ _) (by kernel_rfl) rfl (by kernel_rfl) (Nat.le_of_ble_eq_true rfl) (eSapi_Regs.one _) (by kernel_rfl)
    refine go_unit hs (op := (Op.store 25 (Operand.tmp 4) (Operand.tmp 196))) (ty := 0) (dst := none) (g := none) (by kernel_rfl) (by kernel_rfl) (by kernel_rfl) hx187 [4] (L' := [(4, .pointer (some ad10))]) (by kernel_rfl) ?_
    clear hs; intro a hs
    replace hw : St [] w0 wd186 [own 25 eSapi_Regs (some ad10) 1 [(t182 : Sapi_Regs)], own 25 eSapi_Regs (some ad41) 1 [({ v174 with R := vset v174.R (a1.A : Int).toNat v175 } : Sapi_Regs)], own 27 eSapi_Instr (some ad6) 1 [a1], own 25 eSapi_Regs (some ad2) 1 [a0]] := hw
    refine go_pvs 4 5 [4, 5] hs (L' := [(4, .pointer (some ad10)), (5, .int .i64 0)]) (by kernel_rfl) ?_ rfl
    clear hs; intro a hs
    refine go_end (by kernel_rfl) ?_
    refine hK180 _ _ ?_
    refine wp_ret ?_
    obtain rfl := Option.some.inj H
    refine ret2g (L := [(4, .pointer (some ad10)), (5, .int .i64 0)]) (r1 := .cell 4 25) (v1 := .agg (eSapi_Regs.enc (t182 : Sapi_Regs)).toArray) (r2 := .tmp 5) (v2 := .int .i64 0) hs (by kernel_rfl) ⟨_, (show lk 4 [(4, .pointer (some ad10)), (5, .int .i64 0)] = some (.pointer (some ad10)) by kernel_rfl), lv_row (E := eSapi_Regs) (x := (t182 : Sapi_Regs)) (by kernel_rfl) (by kernel_rfl) (Rd.of_own (hw.up 0))⟩ (show lk 5 [(4, .pointer (some ad10)), (5, .int .i64 0)] = some (.int .i64 0) by kernel_rfl) ?_
    exact ⟨rfl, hw.only 0⟩
   refine wp_block ?_
   refine go_seq_k fun K48 hK48 => ?_
   refine go_region ?_
   refine go_pvs 0 1 [2, 3, 4, 6, 7, 9, 63] hs (L' := [(2, .pointer (some ad2)), (3, .pointer (some ad6)), (4, .pointer (some ad10)), (6, .int .u32 (vx 0 a0.R (a1.B : Int).toNat)), (7, .int .u32 v38), (9, .pointer (some ad41)), (63, .pointer (some ((ad6 : Addr).add 0)))]) (by kernel_rfl) ?_ rfl
   clear hs; intro a hs
   refine go_run hs (op := (Op.load 3 (Operand.tmp 63))) (ty := 3) (dst := some 64) (g := none) (by kernel_rfl) (by kernel_rfl) (by kernel_rfl) (x_ld (E := eSapi_Instr) (off := 0) (p := (ad6 : Addr).add 0) (v := .int .i64 a1.Kind) (Rd.of_own (hw.up 2)) (one_ok a1).1 (one_ok a1).2 (by kernel_rfl) (one_off _ _ _) (by kernel_rfl) (by kernel_rfl)) [2, 3, 4, 6, 7, 9, 64] (L' := [(2, .pointer (some ad2)), (3, .pointer (some ad6)), (4, .pointer (some ad10)), (6, .int .u32 (vx 0 a0.R (a1.B : Int).toNat)), (7, .int .u32 v38), (9, .pointer (some ad41)), (64, .int .i64 a1.Kind)]) (by kernel_rfl) ?_
   clear hs; intro a hs
   refine go_pvs 2 4 [2, 3, 4, 6, 7, 9, 62] hs (L' := [(2, .pointer (some ad2)), (3, .pointer (some ad6)), (4, .pointer (some ad10)), (6, .int .u32 (vx 0 a0.R (a1.B : Int).toNat)), (7, .int .u32 v38), (9, .pointer (some ad41)), (62, .bool (a1.Kind == 3))]) (by kernel_rfl) ?_ rfl
   clear hs; intro a hs
   refine go_end (by kernel_rfl) ?_
   refine hK48 _ _ ?_
   refine go_cond hs (a1.Kind == 3) (by kernel_rfl) (fun hc => ?_) (fun hc => ?_)
   ·replace H := ite_t H (beq_iff_eq.1 hc)
    have hb49 := hc
    rw [hb49] at hs
    refine go_region ?_
    refine go_pvs 0 1 [3, 4, 9, 66] hs (L' := [(3, .pointer (some ad6)), (4, .pointer (some ad10)), (9, .pointer (some ad41)), (66, .pointer (some ((ad2 : Addr).add 16)))]) (by kernel_rfl) ?_ rfl
    clear hs; intro a hs
    refine go_run hs (op := (Op.load 22 (Operand.tmp 66))) (ty := 22) (dst := some 67) (g := none) (by kernel_rfl) (by kernel_rfl) (by kernel_rfl) (x_ld (E := eSapi_Regs) (off := 16) (p := (ad2 : Addr).add 16) (v := .int .u32 a0.H) (Rd.of_own (hw.up 3)) (one_ok a0).1 (one_ok a0).2 (by kernel_rfl) (one_off _ _ _) (by kernel_rfl) (by kernel_rfl)) [3, 4, 9, 67] (L' := [(3, .pointer (some ad6)), (4, .pointer (some ad10)), (9, .pointer (some ad41)), (67, .int .u32 a0.H)]) (by kernel_rfl) ?_
    clear hs; intro a hs
    refine go_pvs 2 3 [3, 4, 8, 9] hs (L' := [(3, .pointer (some ad6)), (4, .pointer (some ad10)), (8, .int .u32 a0.H), (9, .pointer (some ad41))]) (by kernel_rfl) ?_ rfl
    clear hs; intro a hs
    refine go_end (by kernel_rfl) ?_
    refine ib_norm ?_
    replace hw := hw.up 3
    replace hw := hw.up 3
    replace hw := hw.up 3
    replace hw := hw.up 3
    replace hw := hw.only 4
    exact hJ4 (a0 : Sapi_Regs) a0.H _ _ (hs.keep [3, 4, 8, 9] (by kernel_rfl)) hw H
   ·replace H := ite_f H (beq_eq_false_iff_ne.1 hc)
    have hb50 := hc
    rw [hb50] at hs
    refine go_seq_k fun K51 hK51 => ?_
    refine go_region ?_
    refine go_pvs 0 1 [2, 3, 4, 6, 7, 9, 69] hs (L' := [(2, .pointer (some ad2)), (3, .pointer (some ad6)), (4, .pointer (some ad10)), (6, .int .u32 (vx 0 a0.R (a1.B : Int).toNat)), (7, .int .u32 v38), (9, .pointer (some ad41)), (69, .pointer (some ((ad6 : Addr).add 0)))]) (by kernel_rfl) ?_ rfl
    clear hs; intro a hs
    refine go_run hs (op := (Op.load 3 (Operand.tmp 69))) (ty := 3) (dst := some 70) (g := none) (by kernel_rfl) (by kernel_rfl) (by kernel_rfl) (x_ld (E := eSapi_Instr) (off := 0) (p := (ad6 : Addr).add 0) (v := .int .i64 a1.Kind) (Rd.of_own (hw.up 2)) (one_ok a1).1 (one_ok a1).2 (by kernel_rfl) (one_off _ _ _) (by kernel_rfl) (by kernel_rfl)) [2, 3, 4, 6, 7, 9, 70] (L' := [(2, .pointer (some ad2)), (3, .pointer (some ad6)), (4, .pointer (some ad10)), (6, .int .u32 (vx 0 a0.R (a1.B : Int).toNat)), (7, .int .u32 v38), (9, .pointer (some ad41)), (70, .int .i64 a1.Kind)]) (by kernel_rfl) ?_
    clear hs; intro a hs
    refine go_pvs 2 4 [2, 3, 4, 6, 7, 9, 68] hs (L' := [(2, .pointer (some ad2)), (3, .pointer (some ad6)), (4, .pointer (some ad10)), (6, .int .u32 (vx 0 a0.R (a1.B : Int).toNat)), (7, .int .u32 v38), (9, .pointer (some ad41)), (68, .bool (a1.Kind == 4))]) (by kernel_rfl) ?_ rfl
    clear hs; intro a hs
    refine go_end (by kernel_rfl) ?_
    refine hK51 _ _ ?_
    refine go_cond hs (a1.Kind == 4) (by kernel_rfl) (fun hc => ?_) (fun hc => ?_)
    ·replace H := ite_t H (beq_iff_eq.1 hc)
     have hb52 := hc
     rw [hb52] at hs
     refine q2_region (by kernel_rfl) (by kernel_rfl) ?_
     refine q_pvs 0 1 [2, 3, 4, 9, 72] hs (L' := [(2, .pointer (some ad2)), (3, .pointer (some ad6)), (4, .pointer (some ad10)), (9, .pointer (some ad41)), (72, .pointer (some ((ad2 : Addr).add 17)))]) (by kernel_rfl) ?_ rfl
     clear hs; intro a hs
     refine q_run hs (op := (Op.load 4 (Operand.tmp 72))) (ty := 4) (dst := some 73) (g := none) (by kernel_rfl) (by kernel_rfl) (by kernel_rfl) (fun wx hbx => (x_ld (E := eSapi_Regs) (off := 17) (p := (ad2 : Addr).add 17) (v := .bool a0.N) ((Rd.of_own (hw.up 3)).below hbx) (one_ok a0).1 (one_ok a0).2 (by kernel_rfl) (one_off _ _ _) (by kernel_rfl) (by kernel_rfl))) [2, 3, 4, 9, 73] (L' := [(2, .pointer (some ad2)), (3, .pointer (some ad6)), (4, .pointer (some ad10)), (9, .pointer (some ad41)), (73, .bool a0.N)]) (by kernel_rfl) ?_
     clear hs; intro a hs
     obtain ⟨t54, hx55, H⟩ := bind_some H
     refine q_call hs (op := (Op.call { callee := (Callee.value (Operand.func 21)), args := #[(Operand.tmp 73), (Operand.const (Value.int IntKind.i64 31))], argTypes := #[4, 3] })) (ty := 22) (dst := some 74) (g := none) (by kernel_rfl) (by kernel_rfl) (by kernel_rfl) (f := 21) (args := #[.bool a0.N, .int .i64 31]) (v := .int .u32 t54) (by kernel_rfl) (fun wx hbx => (rivetref04_bit.calls a0.N 31 t54 _ hx55).mono ?_) [2, 3, 4, 9, 74] (L' := [(2, .pointer (some ad2)), (3, .pointer (some ad6)), (4, .pointer (some ad10)), (9, .pointer (some ad41)), (74, .int .u32 t54)]) (by kernel_rfl) ?_
     · rintro e wy ⟨rfl, hwy⟩
       exact ⟨rfl, below_st hbx hwy⟩
     clear hs; intro a hs
     refine q_pvs 3 4 [2, 3, 4, 9, 74, 75] hs (L' := [(2, .pointer (some ad2)), (3, .pointer (some ad6)), (4, .pointer (some ad10)), (9, .pointer (some ad41)), (74, .int .u32 t54), (75, .pointer (some ((ad2 : Addr).add 18)))]) (by kernel_rfl) ?_ rfl
     clear hs; intro a hs
     refine q_run hs (op := (Op.load 4 (Operand.tmp 75))) (ty := 4) (dst := some 76) (g := none) (by kernel_rfl) (by kernel_rfl) (by kernel_rfl) (fun wx hbx => (x_ld (E := eSapi_Regs) (off := 18) (p := (ad2 : Addr).add 18) (v := .bool a0.Z) ((Rd.of_own (hw.up 3)).below hbx) (one_ok a0).1 (one_ok a0).2 (by kernel_rfl) (one_off _ _ _) (by kernel_rfl) (by kernel_rfl))) [2, 3, 4, 9, 74, 76] (L' := [(2, .pointer (some ad2)), (3, .pointer (some ad6)), (4, .pointer (some ad10)), (9, .pointer (some ad41)), (74, .int .u32 t54), (76, .bool a0.Z)]) (by kernel_rfl) ?_
     clear hs; intro a hs
     obtain ⟨t57, hx58, H⟩ := bind_some H
     refine q_call hs (op := (Op.call { callee := (Callee.value (Operand.func 21)), args := #[(Operand.tmp 76), (Operand.const (Value.int IntKind.i64 30))], argTypes := #[4, 3] })) (ty := 22) (dst := some 77) (g := none) (by kernel_rfl) (by kernel_rfl) (by kernel_rfl) (f := 21) (args := #[.bool a0.Z, .int .i64 30]) (v := .int .u32 t57) (by kernel_rfl) (fun wx hbx => (rivetref04_bit.calls a0.Z 30 t57 _ hx58).mono ?_) [2, 3, 4, 9, 74, 77] (L' := [(2, .pointer (some ad2)), (3, .pointer (some ad6)), (4, .pointer (some ad10)), (9, .pointer (some ad41)), (74, .int .u32 t54), (77, .int .u32 t57)]) (by kernel_rfl) ?_
     · rintro e wy ⟨rfl, hwy⟩
       exact ⟨rfl, below_st hbx hwy⟩
     clear hs; intro a hs
     refine q_pvs 6 8 [2, 3, 4, 9, 78, 79] hs (L' := [(2, .pointer (some ad2)), (3, .pointer (some ad6)), (4, .pointer (some ad10)), (9, .pointer (some ad41)), (78, .int .u32 (bor .u32 t54 t57)), (79, .pointer (some ((ad2 : Addr).add 19)))]) (by kernel_rfl) ?_ rfl
     clear hs; intro a hs
     refine q_run hs (op := (Op.load 4 (Operand.tmp 79))) (ty := 4) (dst := some 80) (g := none) (by kernel_rfl) (by kernel_rfl) (by kernel_rfl) (fun wx hbx => (x_ld (E := eSapi_Regs) (off := 19) (p := (ad2 : Addr).add 19) (v := .bool a0.C) ((Rd.of_own (hw.up 3)).below hbx) (one_ok a0).1 (one_ok a0).2 (by kernel_rfl) (one_off _ _ _) (by kernel_rfl) (by kernel_rfl))) [2, 3, 4, 9, 78, 80] (L' := [(2, .pointer (some ad2)), (3, .pointer (some ad6)), (4, .pointer (some ad10)), (9, .pointer (some ad41)), (78, .int .u32 (bor .u32 t54 t57)), (80, .bool a0.C)]) (by kernel_rfl) ?_
     clear hs; intro a hs
     obtain ⟨t60, hx61, H⟩ := bind_some H
     refine q_call hs (op := (Op.call { callee := (Callee.value (Operand.func 21)), args := #[(Operand.tmp 80), (Operand.const (Value.int IntKind.i64 29))], argTypes := #[4, 3] })) (ty := 22) (dst := some 81) (g := none) (by kernel_rfl) (by kernel_rfl) (by kernel_rfl) (f := 21) (args := #[.bool a0.C, .int .i64 29]) (v := .int .u32 t60) (by kernel_rfl) (fun wx hbx => (rivetref04_bit.calls a0.C 29 t60 _ hx61).mono ?_) [2, 3, 4, 9, 78, 81] (L' := [(2, .pointer (some ad2)), (3, .pointer (some ad6)), (4, .pointer (some ad10)), (9, .pointer (some ad41)), (78, .int .u32 (bor .u32 t54 t57)), (81, .int .u32 t60)]) (by kernel_rfl) ?_
     · rintro e wy ⟨rfl, hwy⟩
       exact ⟨rfl, below_st hbx hwy⟩
     clear hs; intro a hs
     refine q_pvs 10 12 [3, 4, 9, 82, 83] hs (L' := [(3, .pointer (some ad6)), (4, .pointer (some ad10)), (9, .pointer (some ad41)), (82, .int .u32 (bor .u32 (bor .u32 t54 t57) t60)), (83, .pointer (some ((ad2 : Addr).add 20)))]) (by kernel_rfl) ?_ rfl
     clear hs; intro a hs
     refine q_run hs (op := (Op.load 4 (Operand.tmp 83))) (ty := 4) (dst := some 84) (g := none) (by kernel_rfl) (by kernel_rfl) (by kernel_rfl) (fun wx hbx => (x_ld (E := eSapi_Regs) (off := 20) (p := (ad2 : Addr).add 20) (v := .bool a0.V) ((Rd.of_own (hw.up 3)).below hbx) (one_ok a0).1 (one_ok a0).2 (by kernel_rfl) (one_off _ _ _) (by kernel_rfl) (by kernel_rfl))) [3, 4, 9, 82, 84] (L' := [(3, .pointer (some ad6)), (4, .pointer (some ad10)), (9, .pointer (some ad41)), (82, .int .u32 (bor .u32 (bor .u32 t54 t57) t60)), (84, .bool a0.V)]) (by kernel_rfl) ?_
     clear hs; intro a hs
     obtain ⟨t63, hx64, H⟩ := bind_some H
     refine q_call hs (op := (Op.call { callee := (Callee.value (Operand.func 21)), args := #[(Operand.tmp 84), (Operand.const (Value.int IntKind.i64 28))], argTypes := #[4, 3] })) (ty := 22) (dst := some 85) (g := none) (by kernel_rfl) (by kernel_rfl) (by kernel_rfl) (f := 21) (args := #[.bool a0.V, .int .i64 28]) (v := .int .u32 t63) (by kernel_rfl) (fun wx hbx => (rivetref04_bit.calls a0.V 28 t63 _ hx64).mono ?_) [3, 4, 9, 82, 85] (L' := [(3, .pointer (some ad6)), (4, .pointer (some ad10)), (9, .pointer (some ad41)), (82, .int .u32 (bor .u32 (bor .u32 t54 t57) t60)), (85, .int .u32 t63)]) (by kernel_rfl) ?_
     · rintro e wy ⟨rfl, hwy⟩
       exact ⟨rfl, below_st hbx hwy⟩
     clear hs; intro a hs
     refine q_pvs 14 16 [3, 4, 8, 9] hs (L' := [(3, .pointer (some ad6)), (4, .pointer (some ad10)), (8, .int .u32 (bor .u32 (bor .u32 (bor .u32 t54 t57) t60) t63)), (9, .pointer (some ad41))]) (by kernel_rfl) ?_ rfl
     clear hs; intro a hs
     refine q_end (by kernel_rfl) ?_
     intro wq hbq
     replace hw := hw.behind hbq
     refine ib_norm ?_
     replace hw := hw.up 3
     replace hw := hw.up 3
     replace hw := hw.up 3
     replace hw := hw.up 3
     replace hw := hw.only 4
     exact hJ4 (a0 : Sapi_Regs) (bor .u32 (bor .u32 (bor .u32 t54 t57) t60) t63) _ _ (hs.keep [3, 4, 8, 9] (by kernel_rfl)) hw H
    ·replace H := ite_f H (beq_eq_false_iff_ne.1 hc)
     have hb65 := hc
     rw [hb65] at hs
     refine go_seq_k fun K66 hK66 => ?_
     refine go_region ?_
     refine go_pvs 0 1 [2, 3, 4, 6, 7, 9, 88] hs (L' := [(2, .pointer (some ad2)), (3, .pointer (some ad6)), (4, .pointer (some ad10)), (6, .int .u32 (vx 0 a0.R (a1.B : Int).toNat)), (7, .int .u32 v38), (9, .pointer (some ad41)), (88, .pointer (some ((ad6 : Addr).add 1)))]) (by kernel_rfl) ?_ rfl
     clear hs; intro a hs
     refine go_run hs (op := (Op.load 3 (Operand.tmp 88))) (ty := 3) (dst := some 89) (g := none) (by kernel_rfl) (by kernel_rfl) (by kernel_rfl) (x_ld (E := eSapi_Instr) (off := 1) (p := (ad6 : Addr).add 1) (v := .int .i64 a1.Op) (Rd.of_own (hw.up 2)) (one_ok a1).1 (one_ok a1).2 (by kernel_rfl) (one_off _ _ _) (by kernel_rfl) (by kernel_rfl)) [2, 3, 4, 6, 7, 9, 89] (L' := [(2, .pointer (some ad2)), (3, .pointer (some ad6)), (4, .pointer (some ad10)), (6, .int .u32 (vx 0 a0.R (a1.B : Int).toNat)), (7, .int .u32 v38), (9, .pointer (some ad41)), (89, .int .i64 a1.Op)]) (by kernel_rfl) ?_
     clear hs; intro a hs
     refine go_pvs 2 4 [2, 3, 4, 6, 7, 9, 87] hs (L' := [(2, .pointer (some ad2)), (3, .pointer (some ad6)), (4, .pointer (some ad10)), (6, .int .u32 (vx 0 a0.R (a1.B : Int).toNat)), (7, .int .u32 v38), (9, .pointer (some ad41)), (87, .bool (a1.Op == 0))]) (by kernel_rfl) ?_ rfl
     clear hs; intro a hs
     refine go_end (by kernel_rfl) ?_
     refine hK66 _ _ ?_
     refine go_cond hs (a1.Op == 0) (by kernel_rfl) (fun hc => ?_) (fun hc => ?_)
     ·replace H := ite_t H (beq_iff_eq.1 hc)
      have hb67 := hc
      rw [hb67] at hs
      refine go_seq_k fun K68 hK68 => ?_
      refine go_region ?_
      refine go_pvs 0 2 [3, 4, 7, 8, 9] hs (L' := [(3, .pointer (some ad6)), (4, .pointer (some ad10)), (7, .int .u32 v38), (8, .int .u32 v38), (9, .pointer (some ad41))]) (by kernel_rfl) ?_ rfl
      clear hs; intro a hs
      refine go_end (by kernel_rfl) ?_
      refine hK68 _ _ ?_
      refine go_seq_k fun K69 hK69 => ?_
      refine go_region ?_
      refine go_pvs 0 1 [3, 4, 7, 8, 9, 92] hs (L' := [(3, .pointer (some ad6)), (4, .pointer (some ad10)), (7, .int .u32 v38), (8, .int .u32 v38), (9, .pointer (some ad41)), (92, .pointer (some ((ad6 : Addr).add 6)))]) (by kernel_rfl) ?_ rfl
      clear hs; intro a hs
      refine go_run hs (op := (Op.load 4 (Operand.tmp 92))) (ty := 4) (dst := some 93) (g := none) (by kernel_rfl) (by kernel_rfl) (by kernel_rfl) (x_ld (E := eSapi_Instr) (off := 6) (p := (ad6 : Addr).add 6) (v := .bool a1.U) (Rd.of_own (hw.up 2)) (one_ok a1).1 (one_ok a1).2 (by kernel_rfl) (one_off _ _ _) (by kernel_rfl) (by kernel_rfl)) [3, 4, 7, 8, 9, 93] (L' := [(3, .pointer (some ad6)), (4, .pointer (some ad10)), (7, .int .u32 v38), (8, .int .u32 v38), (9, .pointer (some ad41)), (93, .bool a1.U)]) (by kernel_rfl) ?_
      clear hs; intro a hs
      refine go_end (by kernel_rfl) ?_
      refine hK69 _ _ ?_
      refine go_cond hs a1.U (by kernel_rfl) (fun hc => ?_) (fun hc => ?_)
      ·replace H := ite_t H hc
       have hb70 := hc
       rw [hb70] at hs
       refine go_region ?_
       refine go_pvs 0 3 [3, 4, 8, 9] hs (L' := [(3, .pointer (some ad6)), (4, .pointer (some ad10)), (8, .int .u32 (wu32 (v38 * 2 ^ 16))), (9, .pointer (some ad41))]) (by kernel_rfl) ?_ rfl
       clear hs; intro a hs
       refine go_end (by kernel_rfl) ?_
       refine ib_norm ?_
       replace hw := hw.up 3
       replace hw := hw.up 3
       replace hw := hw.up 3
       replace hw := hw.up 3
       replace hw := hw.only 4
       exact hJ4 (a0 : Sapi_Regs) (wu32 (v38 * 2 ^ 16)) _ _ (hs.keep [3, 4, 8, 9] (by kernel_rfl)) hw H
      ·replace H := ite_f H (ff hc)
       have hb71 := hc
       rw [hb71] at hs
       refine wp_skip ?_
       refine ib_norm ?_
       replace hw := hw.up 3
       replace hw := hw.up 3
       replace hw := hw.up 3
       replace hw := hw.up 3
       replace hw := hw.only 4
       exact hJ4 (a0 : Sapi_Regs) v38 _ _ (hs.keep [3, 4, 8, 9] (by kernel_rfl)) hw H
     ·replace H := ite_f H (beq_eq_false_iff_ne.1 hc)
      have hb72 := hc
      rw [hb72] at hs
      refine go_seq_k fun K73 hK73 => ?_
      refine go_region ?_
      refine go_pvs 0 1 [2, 3, 4, 6, 7, 9, 97] hs (L' := [(2, .pointer (some ad2)), (3, .pointer (some ad6)), (4, .pointer (some ad10)), (6, .int .u32 (vx 0 a0.R (a1.B : Int).toNat)), (7, .int .u32 v38), (9, .pointer (some ad41)), (97, .pointer (some ((ad6 : Addr).add 1)))]) (by kernel_rfl) ?_ rfl
      clear hs; intro a hs
      refine go_run hs (op := (Op.load 3 (Operand.tmp 97))) (ty := 3) (dst := some 98) (g := none) (by kernel_rfl) (by kernel_rfl) (by kernel_rfl) (x_ld (E := eSapi_Instr) (off := 1) (p := (ad6 : Addr).add 1) (v := .int .i64 a1.Op) (Rd.of_own (hw.up 2)) (one_ok a1).1 (one_ok a1).2 (by kernel_rfl) (one_off _ _ _) (by kernel_rfl) (by kernel_rfl)) [2, 3, 4, 6, 7, 9, 98] (L' := [(2, .pointer (some ad2)), (3, .pointer (some ad6)), (4, .pointer (some ad10)), (6, .int .u32 (vx 0 a0.R (a1.B : Int).toNat)), (7, .int .u32 v38), (9, .pointer (some ad41)), (98, .int .i64 a1.Op)]) (by kernel_rfl) ?_
      clear hs; intro a hs
      refine go_pvs 2 4 [2, 3, 4, 6, 7, 9, 96] hs (L' := [(2, .pointer (some ad2)), (3, .pointer (some ad6)), (4, .pointer (some ad10)), (6, .int .u32 (vx 0 a0.R (a1.B : Int).toNat)), (7, .int .u32 v38), (9, .pointer (some ad41)), (96, .bool (decide (a1.Op ≤ 3)))]) (by kernel_rfl) ?_ rfl
      clear hs; intro a hs
      refine go_end (by kernel_rfl) ?_
      refine hK73 _ _ ?_
      refine go_cond hs (decide (a1.Op ≤ 3)) (by kernel_rfl) (fun hc => ?_) (fun hc => ?_)
      ·replace H := ite_t H (of_decide_eq_true hc)
       have hb74 := hc
       rw [hb74] at hs
       refine go_region ?_
       refine go_pvs 0 1 [3, 4, 6, 7, 9, 100] hs (L' := [(3, .pointer (some ad6)), (4, .pointer (some ad10)), (6, .int .u32 (vx 0 a0.R (a1.B : Int).toNat)), (7, .int .u32 v38), (9, .pointer (some ad41)), (100, .pointer (some ((ad6 : Addr).add 1)))]) (by kernel_rfl) ?_ rfl
       clear hs; intro a hs
       refine go_run hs (op := (Op.load 3 (Operand.tmp 100))) (ty := 3) (dst := some 101) (g := none) (by kernel_rfl) (by kernel_rfl) (by kernel_rfl) (x_ld (E := eSapi_Instr) (off := 1) (p := (ad6 : Addr).add 1) (v := .int .i64 a1.Op) (Rd.of_own (hw.up 2)) (one_ok a1).1 (one_ok a1).2 (by kernel_rfl) (one_off _ _ _) (by kernel_rfl) (by kernel_rfl)) [3, 4, 6, 7, 9, 101] (L' := [(3, .pointer (some ad6)), (4, .pointer (some ad10)), (6, .int .u32 (vx 0 a0.R (a1.B : Int).toNat)), (7, .int .u32 v38), (9, .pointer (some ad41)), (101, .int .i64 a1.Op)]) (by kernel_rfl) ?_
       clear hs; intro a hs
       refine go_pvs 2 4 [3, 4, 9, 101, 102, 103] hs (L' := [(3, .pointer (some ad6)), (4, .pointer (some ad10)), (9, .pointer (some ad41)), (101, .int .i64 a1.Op), (102, .int .u32 (vx 0 a0.R (a1.B : Int).toNat)), (103, .int .u32 v38)]) (by kernel_rfl) ?_ rfl
       clear hs; intro a hs
       obtain ⟨t76, hx77, H⟩ := bind_some H
       refine go_call hs (op := (Op.call { callee := (Callee.value (Operand.func 22)), args := #[(Operand.tmp 101), (Operand.tmp 102), (Operand.tmp 103)], argTypes := #[3, 22, 22] })) (ty := 22) (dst := some 104) (g := none) (by kernel_rfl) (by kernel_rfl) (by kernel_rfl) (f := 22) (args := #[.int .i64 a1.Op, .int .u32 (vx 0 a0.R (a1.B : Int).toNat), .int .u32 v38]) (by kernel_rfl) (rivetref01_Shift.calls a1.Op (vx 0 a0.R (a1.B : Int).toNat) v38 t76 _ hx77) ?_
       rintro e wd78 ⟨rfl, hw79⟩
       refine ⟨_, rfl, ?_⟩
       replace hw := hw.call hw79
       intro a hs1
       replace hs : Slots a 197 [(3, .pointer (some ad6)), (4, .pointer (some ad10)), (9, .pointer (some ad41)), (104, .int .u32 t76)] := hs1.keep [3, 4, 9, 104] (by kernel_rfl)
       clear hs1
       refine go_pvs 5 6 [3, 4, 8, 9] hs (L' := [(3, .pointer (some ad6)), (4, .pointer (some ad10)), (8, .int .u32 t76), (9, .pointer (some ad41))]) (by kernel_rfl) ?_ rfl
       clear hs; intro a hs
       refine go_end (by kernel_rfl) ?_
       refine ib_norm ?_
       replace hw := hw.up 3
       replace hw := hw.up 3
       replace hw := hw.up 3
       replace hw := hw.up 3
       replace hw := hw.only 4
       exact hJ4 (a0 : Sapi_Regs) t76 _ _ (hs.keep [3, 4, 8, 9] (by kernel_rfl)) hw H
      ·replace H := ite_f H (of_decide_eq_false hc)
       have hb80 := hc
       rw [hb80] at hs
       refine go_seq_k fun K81 hK81 => ?_
       refine go_region ?_
       refine go_pvs 0 1 [2, 3, 4, 6, 7, 9, 106] hs (L' := [(2, .pointer (some ad2)), (3, .pointer (some ad6)), (4, .pointer (some ad10)), (6, .int .u32 (vx 0 a0.R (a1.B : Int).toNat)), (7, .int .u32 v38), (9, .pointer (some ad41)), (106, .pointer (some ((ad6 : Addr).add 1)))]) (by kernel_rfl) ?_ rfl
       clear hs; intro a hs
       refine go_run hs (op := (Op.load 3 (Operand.tmp 106))) (ty := 3) (dst := some 107) (g := none) (by kernel_rfl) (by kernel_rfl) (by kernel_rfl) (x_ld (E := eSapi_Instr) (off := 1) (p := (ad6 : Addr).add 1) (v := .int .i64 a1.Op) (Rd.of_own (hw.up 2)) (one_ok a1).1 (one_ok a1).2 (by kernel_rfl) (one_off _ _ _) (by kernel_rfl) (by kernel_rfl)) [2, 3, 4, 6, 7, 9, 107] (L' := [(2, .pointer (some ad2)), (3, .pointer (some ad6)), (4, .pointer (some ad10)), (6, .int .u32 (vx 0 a0.R (a1.B : Int).toNat)), (7, .int .u32 v38), (9, .pointer (some ad41)), (107, .int .i64 a1.Op)]) (by kernel_rfl) ?_
       clear hs; intro a hs
       refine go_pvs 2 4 [2, 3, 4, 6, 7, 9, 105] hs (L' := [(2, .pointer (some ad2)), (3, .pointer (some ad6)), (4, .pointer (some ad10)), (6, .int .u32 (vx 0 a0.R (a1.B : Int).toNat)), (7, .int .u32 v38), (9, .pointer (some ad41)), (105, .bool (a1.Op == 4))]) (by kernel_rfl) ?_ rfl
       clear hs; intro a hs
       refine go_end (by kernel_rfl) ?_
       refine hK81 _ _ ?_
       refine go_cond hs (a1.Op == 4) (by kernel_rfl) (fun hc => ?_) (fun hc => ?_)
       ·replace H := ite_t H (beq_iff_eq.1 hc)
        have hb82 := hc
        rw [hb82] at hs
        refine go_region ?_
        refine go_pvs 0 4 [3, 4, 8, 9] hs (L' := [(3, .pointer (some ad6)), (4, .pointer (some ad10)), (8, .int .u32 (band .u32 (vx 0 a0.R (a1.B : Int).toNat) v38)), (9, .pointer (some ad41))]) (by kernel_rfl) ?_ rfl
        clear hs; intro a hs
        refine go_end (by kernel_rfl) ?_
        refine ib_norm ?_
        replace hw := hw.up 3
        replace hw := hw.up 3
        replace hw := hw.up 3
        replace hw := hw.up 3
        replace hw := hw.only 4
        exact hJ4 (a0 : Sapi_Regs) (band .u32 (vx 0 a0.R (a1.B : Int).toNat) v38) _ _ (hs.keep [3, 4, 8, 9] (by kernel_rfl)) hw H
       ·replace H := ite_f H (beq_eq_false_iff_ne.1 hc)
        have hb83 := hc
        rw [hb83] at hs
        refine go_seq_k fun K84 hK84 => ?_
        refine go_region ?_
        refine go_pvs 0 1 [2, 3, 4, 6, 7, 9, 113] hs (L' := [(2, .pointer (some ad2)), (3, .pointer (some ad6)), (4, .pointer (some ad10)), (6, .int .u32 (vx 0 a0.R (a1.B : Int).toNat)), (7, .int .u32 v38), (9, .pointer (some ad41)), (113, .pointer (some ((ad6 : Addr).add 1)))]) (by kernel_rfl) ?_ rfl
        clear hs; intro a hs
        refine go_run hs (op := (Op.load 3 (Operand.tmp 113))) (ty := 3) (dst := some 114) (g := none) (by kernel_rfl) (by kernel_rfl) (by kernel_rfl) (x_ld (E := eSapi_Instr) (off := 1) (p := (ad6 : Addr).add 1) (v := .int .i64 a1.Op) (Rd.of_own (hw.up 2)) (one_ok a1).1 (one_ok a1).2 (by kernel_rfl) (one_off _ _ _) (by kernel_rfl) (by kernel_rfl)) [2, 3, 4, 6, 7, 9, 114] (L' := [(2, .pointer (some ad2)), (3, .pointer (some ad6)), (4, .pointer (some ad10)), (6, .int .u32 (vx 0 a0.R (a1.B : Int).toNat)), (7, .int .u32 v38), (9, .pointer (some ad41)), (114, .int .i64 a1.Op)]) (by kernel_rfl) ?_
        clear hs; intro a hs
        refine go_pvs 2 4 [2, 3, 4, 6, 7, 9, 112] hs (L' := [(2, .pointer (some ad2)), (3, .pointer (some ad6)), (4, .pointer (some ad10)), (6, .int .u32 (vx 0 a0.R (a1.B : Int).toNat)), (7, .int .u32 v38), (9, .pointer (some ad41)), (112, .bool (a1.Op == 5))]) (by kernel_rfl) ?_ rfl
        clear hs; intro a hs
        refine go_end (by kernel_rfl) ?_
        refine hK84 _ _ ?_
        refine go_cond hs (a1.Op == 5) (by kernel_rfl) (fun hc => ?_) (fun hc => ?_)
        ·replace H := ite_t H (beq_iff_eq.1 hc)
         have hb85 := hc
         rw [hb85] at hs
         refine go_region ?_
         refine go_pvs 0 5 [3, 4, 8, 9] hs (L' := [(3, .pointer (some ad6)), (4, .pointer (some ad10)), (8, .int .u32 (band .u32 (vx 0 a0.R (a1.B : Int).toNat) (wu32 (4294967295 - v38)))), (9, .pointer (some ad41))]) (by kernel_rfl) ?_ rfl
         clear hs; intro a hs
         refine go_end (by kernel_rfl) ?_
         refine ib_norm ?_
         replace hw := hw.up 3
         replace hw := hw.up 3
         replace hw := hw.up 3
         replace hw := hw.up 3
         replace hw := hw.only 4
         exact hJ4 (a0 : Sapi_Regs) (band .u32 (vx 0 a0.R (a1.B : Int).toNat) (wu32 (4294967295 - v38))) _ _ (hs.keep [3, 4, 8, 9] (by kernel_rfl)) hw H
        ·replace H := ite_f H (beq_eq_false_iff_ne.1 hc)
         have hb86 := hc
         rw [hb86] at hs
         refine go_seq_k fun K87 hK87 => ?_
         refine go_region ?_
         refine go_pvs 0 1 [2, 3, 4, 6, 7, 9, 121] hs (L' := [(2, .pointer (some ad2)), (3, .pointer (some ad6)), (4, .pointer (some ad10)), (6, .int .u32 (vx 0 a0.R (a1.B : Int).toNat)), (7, .int .u32 v38), (9, .pointer (some ad41)), (121, .pointer (some ((ad6 : Addr).add 1)))]) (by kernel_rfl) ?_ rfl
         clear hs; intro a hs
         refine go_run hs (op := (Op.load 3 (Operand.tmp 121))) (ty := 3) (dst := some 122) (g := none) (by kernel_rfl) (by kernel_rfl) (by kernel_rfl) (x_ld (E := eSapi_Instr) (off := 1) (p := (ad6 : Addr).add 1) (v := .int .i64 a1.Op) (Rd.of_own (hw.up 2)) (one_ok a1).1 (one_ok a1).2 (by kernel_rfl) (one_off _ _ _) (by kernel_rfl) (by kernel_rfl)) [2, 3, 4, 6, 7, 9, 122] (L' := [(2, .pointer (some ad2)), (3, .pointer (some ad6)), (4, .pointer (some ad10)), (6, .int .u32 (vx 0 a0.R (a1.B : Int).toNat)), (7, .int .u32 v38), (9, .pointer (some ad41)), (122, .int .i64 a1.Op)]) (by kernel_rfl) ?_
         clear hs; intro a hs
         refine go_pvs 2 4 [2, 3, 4, 6, 7, 9, 120] hs (L' := [(2, .pointer (some ad2)), (3, .pointer (some ad6)), (4, .pointer (some ad10)), (6, .int .u32 (vx 0 a0.R (a1.B : Int).toNat)), (7, .int .u32 v38), (9, .pointer (some ad41)), (120, .bool (a1.Op == 6))]) (by kernel_rfl) ?_ rfl
         clear hs; intro a hs
         refine go_end (by kernel_rfl) ?_
         refine hK87 _ _ ?_
         refine go_cond hs (a1.Op == 6) (by kernel_rfl) (fun hc => ?_) (fun hc => ?_)
         ·replace H := ite_t H (beq_iff_eq.1 hc)
          have hb88 := hc
          rw [hb88] at hs
          refine go_region ?_
          refine go_pvs 0 4 [3, 4, 8, 9] hs (L' := [(3, .pointer (some ad6)), (4, .pointer (some ad10)), (8, .int .u32 (bor .u32 (vx 0 a0.R (a1.B : Int).toNat) v38)), (9, .pointer (some ad41))]) (by kernel_rfl) ?_ rfl
          clear hs; intro a hs
          refine go_end (by kernel_rfl) ?_
          refine ib_norm ?_
          replace hw := hw.up 3
          replace hw := hw.up 3
          replace hw := hw.up 3
          replace hw := hw.up 3
          replace hw := hw.only 4
          exact hJ4 (a0 : Sapi_Regs) (bor .u32 (vx 0 a0.R (a1.B : Int).toNat) v38) _ _ (hs.keep [3, 4, 8, 9] (by kernel_rfl)) hw H
         ·replace H := ite_f H (beq_eq_false_iff_ne.1 hc)
          have hb89 := hc
          rw [hb89] at hs
          refine go_seq_k fun K90 hK90 => ?_
          refine go_region ?_
          refine go_pvs 0 1 [2, 3, 4, 6, 7, 9, 128] hs (L' := [(2, .pointer (some ad2)), (3, .pointer (some ad6)), (4, .pointer (some ad10)), (6, .int .u32 (vx 0 a0.R (a1.B : Int).toNat)), (7, .int .u32 v38), (9, .pointer (some ad41)), (128, .pointer (some ((ad6 : Addr).add 1)))]) (by kernel_rfl) ?_ rfl
          clear hs; intro a hs
          refine go_run hs (op := (Op.load 3 (Operand.tmp 128))) (ty := 3) (dst := some 129) (g := none) (by kernel_rfl) (by kernel_rfl) (by kernel_rfl) (x_ld (E := eSapi_Instr) (off := 1) (p := (ad6 : Addr).add 1) (v := .int .i64 a1.Op) (Rd.of_own (hw.up 2)) (one_ok a1).1 (one_ok a1).2 (by kernel_rfl) (one_off _ _ _) (by kernel_rfl) (by kernel_rfl)) [2, 3, 4, 6, 7, 9, 129] (L' := [(2, .pointer (some ad2)), (3, .pointer (some ad6)), (4, .pointer (some ad10)), (6, .int .u32 (vx 0 a0.R (a1.B : Int).toNat)), (7, .int .u32 v38), (9, .pointer (some ad41)), (129, .int .i64 a1.Op)]) (by kernel_rfl) ?_
          clear hs; intro a hs
          refine go_pvs 2 4 [2, 3, 4, 6, 7, 9, 127] hs (L' := [(2, .pointer (some ad2)), (3, .pointer (some ad6)), (4, .pointer (some ad10)), (6, .int .u32 (vx 0 a0.R (a1.B : Int).toNat)), (7, .int .u32 v38), (9, .pointer (some ad41)), (127, .bool (a1.Op == 7))]) (by kernel_rfl) ?_ rfl
          clear hs; intro a hs
          refine go_end (by kernel_rfl) ?_
          refine hK90 _ _ ?_
          refine go_cond hs (a1.Op == 7) (by kernel_rfl) (fun hc => ?_) (fun hc => ?_)
          ·replace H := ite_t H (beq_iff_eq.1 hc)
           have hb91 := hc
           rw [hb91] at hs
           refine go_region ?_
           refine go_pvs 0 8 [3, 4, 8, 9] hs (L' := [(3, .pointer (some ad6)), (4, .pointer (some ad10)), (8, .int .u32 (wu32 ((bor .u32 (vx 0 a0.R (a1.B : Int).toNat) v38) - (band .u32 (vx 0 a0.R (a1.B : Int).toNat) v38)))), (9, .pointer (some ad41))]) (by kernel_rfl) ?_ rfl
           clear hs; intro a hs
           refine go_end (by kernel_rfl) ?_
           refine ib_norm ?_
           replace hw := hw.up 3
           replace hw := hw.up 3
           replace hw := hw.up 3
           replace hw := hw.up 3
           replace hw := hw.only 4
           exact hJ4 (a0 : Sapi_Regs) (wu32 ((bor .u32 (vx 0 a0.R (a1.B : Int).toNat) v38) - (band .u32 (vx 0 a0.R (a1.B : Int).toNat) v38))) _ _ (hs.keep [3, 4, 8, 9] (by kernel_rfl)) hw H
          ·replace H := ite_f H (beq_eq_false_iff_ne.1 hc)
           have hb92 := hc
           rw [hb92] at hs
           refine go_seq_k fun K93 hK93 => ?_
           refine go_region ?_
           refine go_pvs 0 1 [2, 3, 4, 6, 7, 9, 139] hs (L' := [(2, .pointer (some ad2)), (3, .pointer (some ad6)), (4, .pointer (some ad10)), (6, .int .u32 (vx 0 a0.R (a1.B : Int).toNat)), (7, .int .u32 v38), (9, .pointer (some ad41)), (139, .pointer (some ((ad6 : Addr).add 1)))]) (by kernel_rfl) ?_ rfl
           clear hs; intro a hs
           refine go_run hs (op := (Op.load 3 (Operand.tmp 139))) (ty := 3) (dst := some 140) (g := none) (by kernel_rfl) (by kernel_rfl) (by kernel_rfl) (x_ld (E := eSapi_Instr) (off := 1) (p := (ad6 : Addr).add 1) (v := .int .i64 a1.Op) (Rd.of_own (hw.up 2)) (one_ok a1).1 (one_ok a1).2 (by kernel_rfl) (one_off _ _ _) (by kernel_rfl) (by kernel_rfl)) [2, 3, 4, 6, 7, 9, 140] (L' := [(2, .pointer (some ad2)), (3, .pointer (some ad6)), (4, .pointer (some ad10)), (6, .int .u32 (vx 0 a0.R (a1.B : Int).toNat)), (7, .int .u32 v38), (9, .pointer (some ad41)), (140, .int .i64 a1.Op)]) (by kernel_rfl) ?_
           clear hs; intro a hs
           refine go_pvs 2 4 [2, 3, 4, 6, 7, 9, 138] hs (L' := [(2, .pointer (some ad2)), (3, .pointer (some ad6)), (4, .pointer (some ad10)), (6, .int .u32 (vx 0 a0.R (a1.B : Int).toNat)), (7, .int .u32 v38), (9, .pointer (some ad41)), (138, .bool (a1.Op == 8))]) (by kernel_rfl) ?_ rfl
           clear hs; intro a hs
           refine go_end (by kernel_rfl) ?_
           refine hK93 _ _ ?_
           refine go_cond hs (a1.Op == 8) (by kernel_rfl) (fun hc => ?_) (fun hc => ?_)
           ·replace H := ite_t H (beq_iff_eq.1 hc)
            have hb94 := hc
            rw [hb94] at hs
            refine go_region ?_
            refine go_pvs 0 3 [2, 3, 4, 9, 143, 144, 145] hs (L' := [(2, .pointer (some ad2)), (3, .pointer (some ad6)), (4, .pointer (some ad10)), (9, .pointer (some ad41)), (143, .int .u32 (vx 0 a0.R (a1.B : Int).toNat)), (144, .int .u32 v38), (145, .pointer (some ((ad6 : Addr).add 6)))]) (by kernel_rfl) ?_ rfl
            clear hs; intro a hs
            refine go_run hs (op := (Op.load 4 (Operand.tmp 145))) (ty := 4) (dst := some 146) (g := none) (by kernel_rfl) (by kernel_rfl) (by kernel_rfl) (x_ld (E := eSapi_Instr) (off := 6) (p := (ad6 : Addr).add 6) (v := .bool a1.U) (Rd.of_own (hw.up 2)) (one_ok a1).1 (one_ok a1).2 (by kernel_rfl) (one_off _ _ _) (by kernel_rfl) (by kernel_rfl)) [2, 3, 4, 9, 143, 144, 146] (L' := [(2, .pointer (some ad2)), (3, .pointer (some ad6)), (4, .pointer (some ad10)), (9, .pointer (some ad41)), (143, .int .u32 (vx 0 a0.R (a1.B : Int).toNat)), (144, .int .u32 v38), (146, .bool a1.U)]) (by kernel_rfl) ?_
            clear hs; intro a hs
            refine go_pvs 4 5 [2, 3, 4, 9, 143, 144, 147] hs (L' := [(2, .pointer (some ad2)), (3, .pointer (some ad6)), (4, .pointer (some ad10)), (9, .pointer (some ad41)), (143, .int .u32 (vx 0 a0.R (a1.B : Int).toNat)), (144, .int .u32 v38), (147, .bool a1.U)]) (by kernel_rfl) ?_ rfl
            clear hs; intro a hs
            cases hb95 : a1.U
            ·replace H := ite_f H (ff hb95)
             rw [hb95] at hs
             refine go_pvs 5 8 [3, 4, 9, 143, 144, 150] hs (L' := [(3, .pointer (some ad6)), (4, .pointer (some ad10)), (9, .pointer (some ad41)), (143, .int .u32 (vx 0 a0.R (a1.B : Int).toNat)), (144, .int .u32 v38), (150, .bool false)]) (by kernel_rfl) ?_ rfl
             clear hs; intro a hs
             obtain ⟨⟨t97, t98, t99⟩, hx100, H⟩ := bind_some H
             refine go_call hs (op := (Op.call { callee := (Callee.value (Operand.func 23)), args := #[(Operand.tmp 143), (Operand.tmp 144), (Operand.tmp 150)], argTypes := #[22, 22, 4] })) (ty := 55) (dst := some 151) (g := none) (by kernel_rfl) (by kernel_rfl) (by kernel_rfl) (f := 23) (args := #[.int .u32 (vx 0 a0.R (a1.B : Int).toNat), .int .u32 v38, .bool false]) (by kernel_rfl) (rivetref01_Add.calls (vx 0 a0.R (a1.B : Int).toNat) v38 false (t97, t98, t99) _ hx100) ?_
             rintro e wd101 ⟨rfl, hw102⟩
             refine ⟨_, rfl, ?_⟩
             replace hw := hw.call hw102
             intro a hs1
             replace hs : Slots a 197 [(3, .pointer (some ad6)), (4, .pointer (some ad10)), (9, .pointer (some ad41)), (151, .tuple #[.int .u32 t97, .bool t98, .bool t99])] := hs1.keep [3, 4, 9, 151] (by kernel_rfl)
             clear hs1
             refine go_pvs 9 15 [3, 4, 8, 9, 153, 154, 155] hs (L' := [(3, .pointer (some ad6)), (4, .pointer (some ad10)), (8, .int .u32 t97), (9, .pointer (some ad41)), (153, .bool t98), (154, .bool t99), (155, .pointer (some ((ad41 : Addr).add 19)))]) (by kernel_rfl) ?_ rfl
             clear hs; intro a hs
             obtain ⟨wd103, hx104, hw⟩ := x_put (P := Try.prog) (ty := 0) (t := 4) (x := (Operand.tmp 155)) (y := (Operand.tmp 153)) (off := 19) (p := (ad41 : Addr).add 19) (v := .bool t98) (vs := [.bool t98]) (i := 0) (e' := (({ (a0 : Sapi_Regs) with C := t98 } : Sapi_Regs) : Sapi_Regs)) hs hw rfl (one_ok (a0 : Sapi_Regs)).1 (one_ok (a0 : Sapi_Regs)).2 (by kernel_rfl) (one_off _ _ _) (by kernel_rfl) rfl (by kernel_rfl) (Nat.le_of_ble_eq_true rfl) (by simp [Value.oneCell']) (by kernel_rfl)
             refine go_unit hs (op := (Op.store 4 (Operand.tmp 155) (Operand.tmp 153))) (ty := 0) (dst := none) (g := none) (by kernel_rfl) (by kernel_rfl) (by kernel_rfl) hx104 [3, 4, 8, 9, 154] (L' := [(3, .pointer (some ad6)), (4, .pointer (some ad10)), (8, .int .u32 t97), (9, .pointer (some ad41)), (154, .bool t99)]) (by kernel_rfl) ?_
             clear hs; intro a hs
             replace hw : St [] w0 wd103 [own 25 eSapi_Regs (some ad41) 1 [({ (a0 : Sapi_Regs) with C := t98 } : Sapi_Regs)], own 25 eSapi_Regs (some ad10) 1 [(⟨(Vector.replicate 16 0), 0, false, false, false, false⟩ : Sapi_Regs)], own 27 eSapi_Instr (some ad6) 1 [a1], own 25 eSapi_Regs (some ad2) 1 [a0]] := hw
             refine go_pvs 16 17 [3, 4, 8, 9, 154, 156] hs (L' := [(3, .pointer (some ad6)), (4, .pointer (some ad10)), (8, .int .u32 t97), (9, .pointer (some ad41)), (154, .bool t99), (156, .pointer (some ((ad41 : Addr).add 20)))]) (by kernel_rfl) ?_ rfl
             clear hs; intro a hs
             obtain ⟨wd105, hx106, hw⟩ := x_put (P := Try.prog) (ty := 0) (t := 4) (x := (Operand.tmp 156)) (y := (Operand.tmp 154)) (off := 20) (p := (ad41 : Addr).add 20) (v := .bool t99) (vs := [.bool t99]) (i := 0) (e' := (({ ({ (a0 : Sapi_Regs) with C := t98 } : Sapi_Regs) with V := t99 } : Sapi_Regs) : Sapi_Regs)) hs hw rfl (one_ok ({ (a0 : Sapi_Regs) with C := t98 } : Sapi_Regs)).1 (one_ok ({ (a0 : Sapi_Regs) with C := t98 } : Sapi_Regs)).2 (by kernel_rfl) (one_off _ _ _) (by kernel_rfl) rfl (by kernel_rfl) (Nat.le_of_ble_eq_true rfl) (by simp [Value.oneCell']) (by kernel_rfl)
             refine go_unit hs (op := (Op.store 4 (Operand.tmp 156) (Operand.tmp 154))) (ty := 0) (dst := none) (g := none) (by kernel_rfl) (by kernel_rfl) (by kernel_rfl) hx106 [3, 4, 8, 9] (L' := [(3, .pointer (some ad6)), (4, .pointer (some ad10)), (8, .int .u32 t97), (9, .pointer (some ad41))]) (by kernel_rfl) ?_
             clear hs; intro a hs
             replace hw : St [] w0 wd105 [own 25 eSapi_Regs (some ad41) 1 [({ ({ (a0 : Sapi_Regs) with C := t98 } : Sapi_Regs) with V := t99 } : Sapi_Regs)], own 25 eSapi_Regs (some ad10) 1 [(⟨(Vector.replicate 16 0), 0, false, false, false, false⟩ : Sapi_Regs)], own 27 eSapi_Instr (some ad6) 1 [a1], own 25 eSapi_Regs (some ad2) 1 [a0]] := hw
             refine go_end (by kernel_rfl) ?_
             refine ib_norm ?_
             replace hw := hw.up 3
             replace hw := hw.up 3
             replace hw := hw.up 3
             replace hw := hw.up 3
             replace hw := hw.only 4
             exact hJ4 ({ ({ (a0 : Sapi_Regs) with C := t98 } : Sapi_Regs) with V := t99 } : Sapi_Regs) t97 _ _ (hs.keep [3, 4, 8, 9] (by kernel_rfl)) hw H
            ·replace H := ite_t H hb95
             rw [hb95] at hs
             refine go_pvs 5 6 [3, 4, 9, 143, 144, 147, 148] hs (L' := [(3, .pointer (some ad6)), (4, .pointer (some ad10)), (9, .pointer (some ad41)), (143, .int .u32 (vx 0 a0.R (a1.B : Int).toNat)), (144, .int .u32 v38), (147, .bool true), (148, .pointer (some ((ad2 : Addr).add 19)))]) (by kernel_rfl) ?_ rfl
             clear hs; intro a hs
             refine go_run hs (op := (Op.load 4 (Operand.tmp 148))) (ty := 4) (dst := some 149) (g := some (4, true)) (by kernel_rfl) (by kernel_rfl) (by kernel_rfl) (x_ld (E := eSapi_Regs) (off := 19) (p := (ad2 : Addr).add 19) (v := .bool a0.C) (Rd.of_own (hw.up 3)) (one_ok a0).1 (one_ok a0).2 (by kernel_rfl) (one_off _ _ _) (by kernel_rfl) (by kernel_rfl)) [3, 4, 9, 143, 144, 147, 149] (L' := [(3, .pointer (some ad6)), (4, .pointer (some ad10)), (9, .pointer (some ad41)), (143, .int .u32 (vx 0 a0.R (a1.B : Int).toNat)), (144, .int .u32 v38), (147, .bool true), (149, .bool a0.C)]) (by kernel_rfl) ?_
             clear hs; intro a hs
             refine go_pvs 7 8 [3, 4, 9, 143, 144, 150] hs (L' := [(3, .pointer (some ad6)), (4, .pointer (some ad10)), (9, .pointer (some ad41)), (143, .int .u32 (vx 0 a0.R (a1.B : Int).toNat)), (144, .int .u32 v38), (150, .bool a0.C)]) (by kernel_rfl) ?_ rfl
             clear hs; intro a hs
             obtain ⟨⟨t108, t109, t110⟩, hx111, H⟩ := bind_some H
             refine go_call hs (op := (Op.call { callee := (Callee.value (Operand.func 23)), args := #[(Operand.tmp 143), (Operand.tmp 144), (Operand.tmp 150)], argTypes := #[22, 22, 4] })) (ty := 55) (dst := some 151) (g := none) (by kernel_rfl) (by kernel_rfl) (by kernel_rfl) (f := 23) (args := #[.int .u32 (vx 0 a0.R (a1.B : Int).toNat), .int .u32 v38, .bool a0.C]) (by kernel_rfl) (rivetref01_Add.calls (vx 0 a0.R (a1.B : Int).toNat) v38 a0.C (t108, t109, t110) _ hx111) ?_
             rintro e wd112 ⟨rfl, hw113⟩
             refine ⟨_, rfl, ?_⟩
             replace hw := hw.call hw113
             intro a hs1
             replace hs : Slots a 197 [(3, .pointer (some ad6)), (4, .pointer (some ad10)), (9, .pointer (some ad41)), (151, .tuple #[.int .u32 t108, .bool t109, .bool t110])] := hs1.keep [3, 4, 9, 151] (by kernel_rfl)
             clear hs1
             refine go_pvs 9 15 [3, 4, 8, 9, 153, 154, 155] hs (L' := [(3, .pointer (some ad6)), (4, .pointer (some ad10)), (8, .int .u32 t108), (9, .pointer (some ad41)), (153, .bool t109), (154, .bool t110), (155, .pointer (some ((ad41 : Addr).add 19)))]) (by kernel_rfl) ?_ rfl
             clear hs; intro a hs
             obtain ⟨wd114, hx115, hw⟩ := x_put (P := Try.prog) (ty := 0) (t := 4) (x := (Operand.tmp 155)) (y := (Operand.tmp 153)) (off := 19) (p := (ad41 : Addr).add 19) (v := .bool t109) (vs := [.bool t109]) (i := 0) (e' := (({ (a0 : Sapi_Regs) with C := t109 } : Sapi_Regs) : Sapi_Regs)) hs hw rfl (one_ok (a0 : Sapi_Regs)).1 (one_ok (a0 : Sapi_Regs)).2 (by kernel_rfl) (one_off _ _ _) (by kernel_rfl) rfl (by kernel_rfl) (Nat.le_of_ble_eq_true rfl) (by simp [Value.oneCell']) (by kernel_rfl)
             refine go_unit hs (op := (Op.store 4 (Operand.tmp 155) (Operand.tmp 153))) (ty := 0) (dst := none) (g := none) (by kernel_rfl) (by kernel_rfl) (by kernel_rfl) hx115 [3, 4, 8, 9, 154] (L' := [(3, .pointer (some ad6)), (4, .pointer (some ad10)), (8, .int .u32 t108), (9, .pointer (some ad41)), (154, .bool t110)]) (by kernel_rfl) ?_
             clear hs; intro a hs
             replace hw : St [] w0 wd114 [own 25 eSapi_Regs (some ad41) 1 [({ (a0 : Sapi_Regs) with C := t109 } : Sapi_Regs)], own 25 eSapi_Regs (some ad10) 1 [(⟨(Vector.replicate 16 0), 0, false, false, false, false⟩ : Sapi_Regs)], own 27 eSapi_Instr (some ad6) 1 [a1], own 25 eSapi_Regs (some ad2) 1 [a0]] := hw
             refine go_pvs 16 17 [3, 4, 8, 9, 154, 156] hs (L' := [(3, .pointer (some ad6)), (4, .pointer (some ad10)), (8, .int .u32 t108), (9, .pointer (some ad41)), (154, .bool t110), (156, .pointer (some ((ad41 : Addr).add 20)))]) (by kernel_rfl) ?_ rfl
             clear hs; intro a hs
             obtain ⟨wd116, hx117, hw⟩ := x_put (P := Try.prog) (ty := 0) (t := 4) (x := (Operand.tmp 156)) (y := (Operand.tmp 154)) (off := 20) (p := (ad41 : Addr).add 20) (v := .bool t110) (vs := [.bool t110]) (i := 0) (e' := (({ ({ (a0 : Sapi_Regs) with C := t109 } : Sapi_Regs) with V := t110 } : Sapi_Regs) : Sapi_Regs)) hs hw rfl (one_ok ({ (a0 : Sapi_Regs) with C := t109 } : Sapi_Regs)).1 (one_ok ({ (a0 : Sapi_Regs) with C := t109 } : Sapi_Regs)).2 (by kernel_rfl) (one_off _ _ _) (by kernel_rfl) rfl (by kernel_rfl) (Nat.le_of_ble_eq_true rfl) (by simp [Value.oneCell']) (by kernel_rfl)
             refine go_unit hs (op := (Op.store 4 (Operand.tmp 156) (Operand.tmp 154))) (ty := 0) (dst := none) (g := none) (by kernel_rfl) (by kernel_rfl) (by kernel_rfl) hx117 [3, 4, 8, 9] (L' := [(3, .pointer (some ad6)), (4, .pointer (some ad10)), (8, .int .u32 t108), (9, .pointer (some ad41))]) (by kernel_rfl) ?_
             clear hs; intro a hs
             replace hw : St [] w0 wd116 [own 25 eSapi_Regs (some ad41) 1 [({ ({ (a0 : Sapi_Regs) with C := t109 } : Sapi_Regs) with V := t110 } : Sapi_Regs)], own 25 eSapi_Regs (some ad10) 1 [(⟨(Vector.replicate 16 0), 0, false, false, false, false⟩ : Sapi_Regs)], own 27 eSapi_Instr (some ad6) 1 [a1], own 25 eSapi_Regs (some ad2) 1 [a0]] := hw
             refine go_end (by kernel_rfl) ?_
             refine ib_norm ?_
             replace hw := hw.up 3
             replace hw := hw.up 3
             replace hw := hw.up 3
             replace hw := hw.up 3
             replace hw := hw.only 4
             exact hJ4 ({ ({ (a0 : Sapi_Regs) with C := t109 } : Sapi_Regs) with V := t110 } : Sapi_Regs) t108 _ _ (hs.keep [3, 4, 8, 9] (by kernel_rfl)) hw H
           ·replace H := ite_f H (beq_eq_false_iff_ne.1 hc)
            have hb118 := hc
            rw [hb118] at hs
            refine go_seq_k fun K119 hK119 => ?_
            refine go_region ?_
            refine go_pvs 0 1 [2, 3, 4, 6, 7, 9, 158] hs (L' := [(2, .pointer (some ad2)), (3, .pointer (some ad6)), (4, .pointer (some ad10)), (6, .int .u32 (vx 0 a0.R (a1.B : Int).toNat)), (7, .int .u32 v38), (9, .pointer (some ad41)), (158, .pointer (some ((ad6 : Addr).add 1)))]) (by kernel_rfl) ?_ rfl
            clear hs; intro a hs
            refine go_run hs (op := (Op.load 3 (Operand.tmp 158))) (ty := 3) (dst := some 159) (g := none) (by kernel_rfl) (by kernel_rfl) (by kernel_rfl) (x_ld (E := eSapi_Instr) (off := 1) (p := (ad6 : Addr).add 1) (v := .int .i64 a1.Op) (Rd.of_own (hw.up 2)) (one_ok a1).1 (one_ok a1).2 (by kernel_rfl) (one_off _ _ _) (by kernel_rfl) (by kernel_rfl)) [2, 3, 4, 6, 7, 9, 159] (L' := [(2, .pointer (some ad2)), (3, .pointer (some ad6)), (4, .pointer (some ad10)), (6, .int .u32 (vx 0 a0.R (a1.B : Int).toNat)), (7, .int .u32 v38), (9, .pointer (some ad41)), (159, .int .i64 a1.Op)]) (by kernel_rfl) ?_
            clear hs; intro a hs
            refine go_pvs 2 4 [2, 3, 4, 6, 7, 9, 157] hs (L' := [(2, .pointer (some ad2)), (3, .pointer (some ad6)), (4, .pointer (some ad10)), (6, .int .u32 (vx 0 a0.R (a1.B : Int).toNat)), (7, .int .u32 v38), (9, .pointer (some ad41)), (157, .bool (a1.Op == 9))]) (by kernel_rfl) ?_ rfl
            clear hs; intro a hs
            refine go_end (by kernel_rfl) ?_
            refine hK119 _ _ ?_
            refine go_cond hs (a1.Op == 9) (by kernel_rfl) (fun hc => ?_) (fun hc => ?_)
            ·replace H := ite_t H (beq_iff_eq.1 hc)
             have hb120 := hc
             rw [hb120] at hs
             refine go_region ?_
             refine go_pvs 0 3 [2, 3, 4, 9, 162, 163, 164] hs (L' := [(2, .pointer (some ad2)), (3, .pointer (some ad6)), (4, .pointer (some ad10)), (9, .pointer (some ad41)), (162, .int .u32 (vx 0 a0.R (a1.B : Int).toNat)), (163, .int .u32 v38), (164, .pointer (some ((ad6 : Addr).add 6)))]) (by kernel_rfl) ?_ rfl
             clear hs; intro a hs
             refine go_run hs (op := (Op.load 4 (Operand.tmp 164))) (ty := 4) (dst := some 165) (g := none) (by kernel_rfl) (by kernel_rfl) (by kernel_rfl) (x_ld (E := eSapi_Instr) (off := 6) (p := (ad6 : Addr).add 6) (v := .bool a1.U) (Rd.of_own (hw.up 2)) (one_ok a1).1 (one_ok a1).2 (by kernel_rfl) (one_off _ _ _) (by kernel_rfl) (by kernel_rfl)) [2, 3, 4, 9, 162, 163, 165] (L' := [(2, .pointer (some ad2)), (3, .pointer (some ad6)), (4, .pointer (some ad10)), (9, .pointer (some ad41)), (162, .int .u32 (vx 0 a0.R (a1.B : Int).toNat)), (163, .int .u32 v38), (165, .bool a1.U)]) (by kernel_rfl) ?_
             clear hs; intro a hs
             refine go_pvs 4 5 [2, 3, 4, 9, 162, 163, 166] hs (L' := [(2, .pointer (some ad2)), (3, .pointer (some ad6)), (4, .pointer (some ad10)), (9, .pointer (some ad41)), (162, .int .u32 (vx 0 a0.R (a1.B : Int).toNat)), (163, .int .u32 v38), (166, .bool a1.U)]) (by kernel_rfl) ?_ rfl
             clear hs; intro a hs
             cases hb121 : a1.U
             ·replace H := ite_f H (ff hb121)
              rw [hb121] at hs
              refine go_pvs 5 8 [3, 4, 9, 162, 163, 169] hs (L' := [(3, .pointer (some ad6)), (4, .pointer (some ad10)), (9, .pointer (some ad41)), (162, .int .u32 (vx 0 a0.R (a1.B : Int).toNat)), (163, .int .u32 v38), (169, .bool false)]) (by kernel_rfl) ?_ rfl
              clear hs; intro a hs
              obtain ⟨⟨t123, t124, t125⟩, hx126, H⟩ := bind_some H
              refine go_call hs (op := (Op.call { callee := (Callee.value (Operand.func 24)), args := #[(Operand.tmp 162), (Operand.tmp 163), (Operand.tmp 169)], argTypes := #[22, 22, 4] })) (ty := 55) (dst := some 170) (g := none) (by kernel_rfl) (by kernel_rfl) (by kernel_rfl) (f := 24) (args := #[.int .u32 (vx 0 a0.R (a1.B : Int).toNat), .int .u32 v38, .bool false]) (by kernel_rfl) (rivetref01_Sub.calls (vx 0 a0.R (a1.B : Int).toNat) v38 false (t123, t124, t125) _ hx126) ?_
              rintro e wd127 ⟨rfl, hw128⟩
              refine ⟨_, rfl, ?_⟩
              replace hw := hw.call hw128
              intro a hs1
              replace hs : Slots a 197 [(3, .pointer (some ad6)), (4, .pointer (some ad10)), (9, .pointer (some ad41)), (170, .tuple #[.int .u32 t123, .bool t124, .bool t125])] := hs1.keep [3, 4, 9, 170] (by kernel_rfl)
              clear hs1
              refine go_pvs 9 15 [3, 4, 8, 9, 172, 173, 174] hs (L' := [(3, .pointer (some ad6)), (4, .pointer (some ad10)), (8, .int .u32 t123), (9, .pointer (some ad41)), (172, .bool t124), (173, .bool t125), (174, .pointer (some ((ad41 : Addr).add 19)))]) (by kernel_rfl) ?_ rfl
              clear hs; intro a hs
              obtain ⟨wd129, hx130, hw⟩ := x_put (P := Try.prog) (ty := 0) (t := 4) (x := (Operand.tmp 174)) (y := (Operand.tmp 172)) (off := 19) (p := (ad41 : Addr).add 19) (v := .bool t124) (vs := [.bool t124]) (i := 0) (e' := (({ (a0 : Sapi_Regs) with C := t124 } : Sapi_Regs) : Sapi_Regs)) hs hw rfl (one_ok (a0 : Sapi_Regs)).1 (one_ok (a0 : Sapi_Regs)).2 (by kernel_rfl) (one_off _ _ _) (by kernel_rfl) rfl (by kernel_rfl) (Nat.le_of_ble_eq_true rfl) (by simp [Value.oneCell']) (by kernel_rfl)
              refine go_unit hs (op := (Op.store 4 (Operand.tmp 174) (Operand.tmp 172))) (ty := 0) (dst := none) (g := none) (by kernel_rfl) (by kernel_rfl) (by kernel_rfl) hx130 [3, 4, 8, 9, 173] (L' := [(3, .pointer (some ad6)), (4, .pointer (some ad10)), (8, .int .u32 t123), (9, .pointer (some ad41)), (173, .bool t125)]) (by kernel_rfl) ?_
              clear hs; intro a hs
              replace hw : St [] w0 wd129 [own 25 eSapi_Regs (some ad41) 1 [({ (a0 : Sapi_Regs) with C := t124 } : Sapi_Regs)], own 25 eSapi_Regs (some ad10) 1 [(⟨(Vector.replicate 16 0), 0, false, false, false, false⟩ : Sapi_Regs)], own 27 eSapi_Instr (some ad6) 1 [a1], own 25 eSapi_Regs (some ad2) 1 [a0]] := hw
              refine go_pvs 16 17 [3, 4, 8, 9, 173, 175] hs (L' := [(3, .pointer (some ad6)), (4, .pointer (some ad10)), (8, .int .u32 t123), (9, .pointer (some ad41)), (173, .bool t125), (175, .pointer (some ((ad41 : Addr).add 20)))]) (by kernel_rfl) ?_ rfl
              clear hs; intro a hs
              obtain ⟨wd131, hx132, hw⟩ := x_put (P := Try.prog) (ty := 0) (t := 4) (x := (Operand.tmp 175)) (y := (Operand.tmp 173)) (off := 20) (p := (ad41 : Addr).add 20) (v := .bool t125) (vs := [.bool t125]) (i := 0) (e' := (({ ({ (a0 : Sapi_Regs) with C := t124 } : Sapi_Regs) with V := t125 } : Sapi_Regs) : Sapi_Regs)) hs hw rfl (one_ok ({ (a0 : Sapi_Regs) with C := t124 } : Sapi_Regs)).1 (one_ok ({ (a0 : Sapi_Regs) with C := t124 } : Sapi_Regs)).2 (by kernel_rfl) (one_off _ _ _) (by kernel_rfl) rfl (by kernel_rfl) (Nat.le_of_ble_eq_true rfl) (by simp [Value.oneCell']) (by kernel_rfl)
              refine go_unit hs (op := (Op.store 4 (Operand.tmp 175) (Operand.tmp 173))) (ty := 0) (dst := none) (g := none) (by kernel_rfl) (by kernel_rfl) (by kernel_rfl) hx132 [3, 4, 8, 9] (L' := [(3, .pointer (some ad6)), (4, .pointer (some ad10)), (8, .int .u32 t123), (9, .pointer (some ad41))]) (by kernel_rfl) ?_
              clear hs; intro a hs
              replace hw : St [] w0 wd131 [own 25 eSapi_Regs (some ad41) 1 [({ ({ (a0 : Sapi_Regs) with C := t124 } : Sapi_Regs) with V := t125 } : Sapi_Regs)], own 25 eSapi_Regs (some ad10) 1 [(⟨(Vector.replicate 16 0), 0, false, false, false, false⟩ : Sapi_Regs)], own 27 eSapi_Instr (some ad6) 1 [a1], own 25 eSapi_Regs (some ad2) 1 [a0]] := hw
              refine go_end (by kernel_rfl) ?_
              refine ib_norm ?_
              replace hw := hw.up 3
              replace hw := hw.up 3
              replace hw := hw.up 3
              replace hw := hw.up 3
              replace hw := hw.only 4
              exact hJ4 ({ ({ (a0 : Sapi_Regs) with C := t124 } : Sapi_Regs) with V := t125 } : Sapi_Regs) t123 _ _ (hs.keep [3, 4, 8, 9] (by kernel_rfl)) hw H
             ·replace H := ite_t H hb121
              rw [hb121] at hs
              refine go_pvs 5 6 [3, 4, 9, 162, 163, 166, 167] hs (L' := [(3, .pointer (some ad6)), (4, .pointer (some ad10)), (9, .pointer (some ad41)), (162, .int .u32 (vx 0 a0.R (a1.B : Int).toNat)), (163, .int .u32 v38), (166, .bool true), (167, .pointer (some ((ad2 : Addr).add 19)))]) (by kernel_rfl) ?_ rfl
              clear hs; intro a hs
              refine go_run hs (op := (Op.load 4 (Operand.tmp 167))) (ty := 4) (dst := some 168) (g := some (4, true)) (by kernel_rfl) (by kernel_rfl) (by kernel_rfl) (x_ld (E := eSapi_Regs) (off := 19) (p := (ad2 : Addr).add 19) (v := .bool a0.C) (Rd.of_own (hw.up 3)) (one_ok a0).1 (one_ok a0).2 (by kernel_rfl) (one_off _ _ _) (by kernel_rfl) (by kernel_rfl)) [3, 4, 9, 162, 163, 166, 168] (L' := [(3, .pointer (some ad6)), (4, .pointer (some ad10)), (9, .pointer (some ad41)), (162, .int .u32 (vx 0 a0.R (a1.B : Int).toNat)), (163, .int .u32 v38), (166, .bool true), (168, .bool a0.C)]) (by kernel_rfl) ?_
              clear hs; intro a hs
              refine go_pvs 7 8 [3, 4, 9, 162, 163, 169] hs (L' := [(3, .pointer (some ad6)), (4, .pointer (some ad10)), (9, .pointer (some ad41)), (162, .int .u32 (vx 0 a0.R (a1.B : Int).toNat)), (163, .int .u32 v38), (169, .bool a0.C)]) (by kernel_rfl) ?_ rfl
              clear hs; intro a hs
              obtain ⟨⟨t134, t135, t136⟩, hx137, H⟩ := bind_some H
              refine go_call hs (op := (Op.call { callee := (Callee.value (Operand.func 24)), args := #[(Operand.tmp 162), (Operand.tmp 163), (Operand.tmp 169)], argTypes := #[22, 22, 4] })) (ty := 55) (dst := some 170) (g := none) (by kernel_rfl) (by kernel_rfl) (by kernel_rfl) (f := 24) (args := #[.int .u32 (vx 0 a0.R (a1.B : Int).toNat), .int .u32 v38, .bool a0.C]) (by kernel_rfl) (rivetref01_Sub.calls (vx 0 a0.R (a1.B : Int).toNat) v38 a0.C (t134, t135, t136) _ hx137) ?_
              rintro e wd138 ⟨rfl, hw139⟩
              refine ⟨_, rfl, ?_⟩
              replace hw := hw.call hw139
              intro a hs1
              replace hs : Slots a 197 [(3, .pointer (some ad6)), (4, .pointer (some ad10)), (9, .pointer (some ad41)), (170, .tuple #[.int .u32 t134, .bool t135, .bool t136])] := hs1.keep [3, 4, 9, 170] (by kernel_rfl)
              clear hs1
              refine go_pvs 9 15 [3, 4, 8, 9, 172, 173, 174] hs (L' := [(3, .pointer (some ad6)), (4, .pointer (some ad10)), (8, .int .u32 t134), (9, .pointer (some ad41)), (172, .bool t135), (173, .bool t136), (174, .pointer (some ((ad41 : Addr).add 19)))]) (by kernel_rfl) ?_ rfl
              clear hs; intro a hs
              obtain ⟨wd140, hx141, hw⟩ := x_put (P := Try.prog) (ty := 0) (t := 4) (x := (Operand.tmp 174)) (y := (Operand.tmp 172)) (off := 19) (p := (ad41 : Addr).add 19) (v := .bool t135) (vs := [.bool t135]) (i := 0) (e' := (({ (a0 : Sapi_Regs) with C := t135 } : Sapi_Regs) : Sapi_Regs)) hs hw rfl (one_ok (a0 : Sapi_Regs)).1 (one_ok (a0 : Sapi_Regs)).2 (by kernel_rfl) (one_off _ _ _) (by kernel_rfl) rfl (by kernel_rfl) (Nat.le_of_ble_eq_true rfl) (by simp [Value.oneCell']) (by kernel_rfl)
              refine go_unit hs (op := (Op.store 4 (Operand.tmp 174) (Operand.tmp 172))) (ty := 0) (dst := none) (g := none) (by kernel_rfl) (by kernel_rfl) (by kernel_rfl) hx141 [3, 4, 8, 9, 173] (L' := [(3, .pointer (some ad6)), (4, .pointer (some ad10)), (8, .int .u32 t134), (9, .pointer (some ad41)), (173, .bool t136)]) (by kernel_rfl) ?_
              clear hs; intro a hs
              replace hw : St [] w0 wd140 [own 25 eSapi_Regs (some ad41) 1 [({ (a0 : Sapi_Regs) with C := t135 } : Sapi_Regs)], own 25 eSapi_Regs (some ad10) 1 [(⟨(Vector.replicate 16 0), 0, false, false, false, false⟩ : Sapi_Regs)], own 27 eSapi_Instr (some ad6) 1 [a1], own 25 eSapi_Regs (some ad2) 1 [a0]] := hw
              refine go_pvs 16 17 [3, 4, 8, 9, 173, 175] hs (L' := [(3, .pointer (some ad6)), (4, .pointer (some ad10)), (8, .int .u32 t134), (9, .pointer (some ad41)), (173, .bool t136), (175, .pointer (some ((ad41 : Addr).add 20)))]) (by kernel_rfl) ?_ rfl
              clear hs; intro a hs
              obtain ⟨wd142, hx143, hw⟩ := x_put (P := Try.prog) (ty := 0) (t := 4) (x := (Operand.tmp 175)) (y := (Operand.tmp 173)) (off := 20) (p := (ad41 : Addr).add 20) (v := .bool t136) (vs := [.bool t136]) (i := 0) (e' := (({ ({ (a0 : Sapi_Regs) with C := t135 } : Sapi_Regs) with V := t136 } : Sapi_Regs) : Sapi_Regs)) hs hw rfl (one_ok ({ (a0 : Sapi_Regs) with C := t135 } : Sapi_Regs)).1 (one_ok ({ (a0 : Sapi_Regs) with C := t135 } : Sapi_Regs)).2 (by kernel_rfl) (one_off _ _ _) (by kernel_rfl) rfl (by kernel_rfl) (Nat.le_of_ble_eq_true rfl) (by simp [Value.oneCell']) (by kernel_rfl)
              refine go_unit hs (op := (Op.store 4 (Operand.tmp 175) (Operand.tmp 173))) (ty := 0) (dst := none) (g := none) (by kernel_rfl) (by kernel_rfl) (by kernel_rfl) hx143 [3, 4, 8, 9] (L' := [(3, .pointer (some ad6)), (4, .pointer (some ad10)), (8, .int .u32 t134), (9, .pointer (some ad41))]) (by kernel_rfl) ?_
              clear hs; intro a hs
              replace hw : St [] w0 wd142 [own 25 eSapi_Regs (some ad41) 1 [({ ({ (a0 : Sapi_Regs) with C := t135 } : Sapi_Regs) with V := t136 } : Sapi_Regs)], own 25 eSapi_Regs (some ad10) 1 [(⟨(Vector.replicate 16 0), 0, false, false, false, false⟩ : Sapi_Regs)], own 27 eSapi_Instr (some ad6) 1 [a1], own 25 eSapi_Regs (some ad2) 1 [a0]] := hw
              refine go_end (by kernel_rfl) ?_
              refine ib_norm ?_
              replace hw := hw.up 3
              replace hw := hw.up 3
              replace hw := hw.up 3
              replace hw := hw.up 3
              replace hw := hw.only 4
              exact hJ4 ({ ({ (a0 : Sapi_Regs) with C := t135 } : Sapi_Regs) with V := t136 } : Sapi_Regs) t134 _ _ (hs.keep [3, 4, 8, 9] (by kernel_rfl)) hw H
            ·replace H := ite_f H (beq_eq_false_iff_ne.1 hc)
             have hb144 := hc
             rw [hb144] at hs
             refine go_seq_k fun K145 hK145 => ?_
             refine go_region ?_
             refine go_pvs 0 1 [2, 3, 4, 6, 7, 9, 177] hs (L' := [(2, .pointer (some ad2)), (3, .pointer (some ad6)), (4, .pointer (some ad10)), (6, .int .u32 (vx 0 a0.R (a1.B : Int).toNat)), (7, .int .u32 v38), (9, .pointer (some ad41)), (177, .pointer (some ((ad6 : Addr).add 1)))]) (by kernel_rfl) ?_ rfl
             clear hs; intro a hs
             refine go_run hs (op := (Op.load 3 (Operand.tmp 177))) (ty := 3) (dst := some 178) (g := none) (by kernel_rfl) (by kernel_rfl) (by kernel_rfl) (x_ld (E := eSapi_Instr) (off := 1) (p := (ad6 : Addr).add 1) (v := .int .i64 a1.Op) (Rd.of_own (hw.up 2)) (one_ok a1).1 (one_ok a1).2 (by kernel_rfl) (one_off _ _ _) (by kernel_rfl) (by kernel_rfl)) [2, 3, 4, 6, 7, 9, 178] (L' := [(2, .pointer (some ad2)), (3, .pointer (some ad6)), (4, .pointer (some ad10)), (6, .int .u32 (vx 0 a0.R (a1.B : Int).toNat)), (7, .int .u32 v38), (9, .pointer (some ad41)), (178, .int .i64 a1.Op)]) (by kernel_rfl) ?_
             clear hs; intro a hs
             refine go_pvs 2 4 [2, 3, 4, 6, 7, 9, 176] hs (L' := [(2, .pointer (some ad2)), (3, .pointer (some ad6)), (4, .pointer (some ad10)), (6, .int .u32 (vx 0 a0.R (a1.B : Int).toNat)), (7, .int .u32 v38), (9, .pointer (some ad41)), (176, .bool (a1.Op == 10))]) (by kernel_rfl) ?_ rfl
             clear hs; intro a hs
             refine go_end (by kernel_rfl) ?_
             refine hK145 _ _ ?_
             refine go_cond hs (a1.Op == 10) (by kernel_rfl) (fun hc => ?_) (fun hc => ?_)
             ·replace H := ite_t H (beq_iff_eq.1 hc)
              have hb146 := hc
              rw [hb146] at hs
              refine go_region ?_
              refine go_pvs 0 3 [3, 4, 9, 181, 182, 183] hs (L' := [(3, .pointer (some ad6)), (4, .pointer (some ad10)), (9, .pointer (some ad41)), (181, .int .u32 (vx 0 a0.R (a1.B : Int).toNat)), (182, .int .u32 v38), (183, .pointer (some ((ad6 : Addr).add 6)))]) (by kernel_rfl) ?_ rfl
              clear hs; intro a hs
              refine go_run hs (op := (Op.load 4 (Operand.tmp 183))) (ty := 4) (dst := some 184) (g := none) (by kernel_rfl) (by kernel_rfl) (by kernel_rfl) (x_ld (E := eSapi_Instr) (off := 6) (p := (ad6 : Addr).add 6) (v := .bool a1.U) (Rd.of_own (hw.up 2)) (one_ok a1).1 (one_ok a1).2 (by kernel_rfl) (one_off _ _ _) (by kernel_rfl) (by kernel_rfl)) [3, 4, 9, 181, 182, 184] (L' := [(3, .pointer (some ad6)), (4, .pointer (some ad10)), (9, .pointer (some ad41)), (181, .int .u32 (vx 0 a0.R (a1.B : Int).toNat)), (182, .int .u32 v38), (184, .bool a1.U)]) (by kernel_rfl) ?_
              clear hs; intro a hs
              obtain ⟨⟨t148, t149⟩, hx150, H⟩ := bind_some H
              refine go_call hs (op := (Op.call { callee := (Callee.value (Operand.func 25)), args := #[(Operand.tmp 181), (Operand.tmp 182), (Operand.tmp 184)], argTypes := #[22, 22, 4] })) (ty := 57) (dst := some 185) (g := none) (by kernel_rfl) (by kernel_rfl) (by kernel_rfl) (f := 25) (args := #[.int .u32 (vx 0 a0.R (a1.B : Int).toNat), .int .u32 v38, .bool a1.U]) (by kernel_rfl) (rivetref01_Mul.calls (vx 0 a0.R (a1.B : Int).toNat) v38 a1.U (t148, t149) _ hx150) ?_
              rintro e wd151 ⟨rfl, hw152⟩
              refine ⟨_, rfl, ?_⟩
              replace hw := hw.call hw152
              intro a hs1
              replace hs : Slots a 197 [(3, .pointer (some ad6)), (4, .pointer (some ad10)), (9, .pointer (some ad41)), (185, .tuple #[.int .u32 t148, .int .u32 t149])] := hs1.keep [3, 4, 9, 185] (by kernel_rfl)
              clear hs1
              refine go_pvs 5 10 [3, 4, 8, 9, 187, 188] hs (L' := [(3, .pointer (some ad6)), (4, .pointer (some ad10)), (8, .int .u32 t148), (9, .pointer (some ad41)), (187, .int .u32 t149), (188, .pointer (some ((ad41 : Addr).add 16)))]) (by kernel_rfl) ?_ rfl
              clear hs; intro a hs
              obtain ⟨wd153, hx154, hw⟩ := x_put (P := Try.prog) (ty := 0) (t := 22) (x := (Operand.tmp 188)) (y := (Operand.tmp 187)) (off := 16) (p := (ad41 : Addr).add 16) (v := .int .u32 t149) (vs := [.int .u32 t149]) (i := 0) (e' := (({ (a0 : Sapi_Regs) with H := t149 } : Sapi_Regs) : Sapi_Regs)) hs hw rfl (one_ok (a0 : Sapi_Regs)).1 (one_ok (a0 : Sapi_Regs)).2 (by kernel_rfl) (one_off _ _ _) (by kernel_rfl) rfl (by kernel_rfl) (Nat.le_of_ble_eq_true rfl) (by simp [Value.oneCell']) (by kernel_rfl)
              refine go_unit hs (op := (Op.store 22 (Operand.tmp 188) (Operand.tmp 187))) (ty := 0) (dst := none) (g := none) (by kernel_rfl) (by kernel_rfl) (by kernel_rfl) hx154 [3, 4, 8, 9] (L' := [(3, .pointer (some ad6)), (4, .pointer (some ad10)), (8, .int .u32 t148), (9, .pointer (some ad41))]) (by kernel_rfl) ?_
              clear hs; intro a hs
              replace hw : St [] w0 wd153 [own 25 eSapi_Regs (some ad41) 1 [({ (a0 : Sapi_Regs) with H := t149 } : Sapi_Regs)], own 25 eSapi_Regs (some ad10) 1 [(⟨(Vector.replicate 16 0), 0, false, false, false, false⟩ : Sapi_Regs)], own 27 eSapi_Instr (some ad6) 1 [a1], own 25 eSapi_Regs (some ad2) 1 [a0]] := hw
              refine go_end (by kernel_rfl) ?_
              refine ib_norm ?_
              replace hw := hw.up 3
              replace hw := hw.up 3
              replace hw := hw.up 3
              replace hw := hw.up 3
              replace hw := hw.only 4
              exact hJ4 ({ (a0 : Sapi_Regs) with H := t149 } : Sapi_Regs) t148 _ _ (hs.keep [3, 4, 8, 9] (by kernel_rfl)) hw H
             ·replace H := ite_f H (beq_eq_false_iff_ne.1 hc)
              have hb155 := hc
              rw [hb155] at hs
              refine go_seq_k fun K156 hK156 => ?_
              refine go_region ?_
              refine go_pvs 0 2 [2, 3, 4, 9, 50, 51] hs (L' := [(2, .pointer (some ad2)), (3, .pointer (some ad6)), (4, .pointer (some ad10)), (9, .pointer (some ad41)), (50, .int .u32 (vx 0 a0.R (a1.B : Int).toNat)), (51, .int .u32 v38)]) (by kernel_rfl) ?_ rfl
              clear hs; intro a hs
              obtain ⟨⟨t158, t159, t160⟩, hx161, H⟩ := bind_some H
              refine go_call hs (op := (Op.call { callee := (Callee.value (Operand.func 26)), args := #[(Operand.tmp 50), (Operand.tmp 51)], argTypes := #[22, 22] })) (ty := 59) (dst := some 52) (g := none) (by kernel_rfl) (by kernel_rfl) (by kernel_rfl) (f := 26) (args := #[.int .u32 (vx 0 a0.R (a1.B : Int).toNat), .int .u32 v38]) (by kernel_rfl) (rivetref01_Div.calls (vx 0 a0.R (a1.B : Int).toNat) v38 (t158, t159, t160) _ hx161) ?_
              rintro e wd162 ⟨rfl, hw163⟩
              refine ⟨_, rfl, ?_⟩
              replace hw := hw.call hw163
              intro a hs1
              replace hs : Slots a 197 [(2, .pointer (some ad2)), (3, .pointer (some ad6)), (4, .pointer (some ad10)), (9, .pointer (some ad41)), (52, .tuple #[.int .u32 t158, .int .u32 t159, .bool t160])] := hs1.keep [2, 3, 4, 9, 52] (by kernel_rfl)
              clear hs1
              refine go_pvs 3 10 [2, 3, 4, 9, 10, 11, 12] hs (L' := [(2, .pointer (some ad2)), (3, .pointer (some ad6)), (4, .pointer (some ad10)), (9, .pointer (some ad41)), (10, .int .u32 t158), (11, .int .u32 t159), (12, .bool t160)]) (by kernel_rfl) ?_ rfl
              clear hs; intro a hs
              refine go_end (by kernel_rfl) ?_
              refine hK156 _ _ ?_
              refine go_seq_k fun K164 hK164 => ?_
              refine go_seq_k fun K165 hK165 => ?_
              refine go_region ?_
              refine go_pvs 0 2 [2, 3, 4, 9, 10, 11, 57] hs (L' := [(2, .pointer (some ad2)), (3, .pointer (some ad6)), (4, .pointer (some ad10)), (9, .pointer (some ad41)), (10, .int .u32 t158), (11, .int .u32 t159), (57, .bool (!t160))]) (by kernel_rfl) ?_ rfl
              clear hs; intro a hs
              refine go_end (by kernel_rfl) ?_
              refine hK165 _ _ ?_
              refine go_cond hs (!t160) (by kernel_rfl) (fun hc => ?_) (fun hc => ?_)
              ·replace H := ite_f H (ff (nt hc))
               have hb166 := hc
               rw [hb166] at hs
               refine go_seq_k fun K167 hK167 => ?_
               refine go_region ?_
               refine go_run hs (op := (Op.load 25 (Operand.tmp 2))) (ty := 25) (dst := some 58) (g := none) (by kernel_rfl) (by kernel_rfl) (by kernel_rfl) (x_lds (E := eSapi_Regs) (off := 0) (p := ad2) (cs := (eSapi_Regs.enc a0)) (Rd.of_own (hw.up 3)) (one_ok a0).1 (one_ok a0).2 (by kernel_rfl) (one_at _ _) (by kernel_rfl) (by kernel_rfl) (by kernel_rfl)) [4, 58] (L' := [(4, .pointer (some ad10)), (58, .agg (eSapi_Regs.enc a0).toArray)]) (by kernel_rfl) ?_
               clear hs; intro a hs
               replace hw := hw.up 1
               obtain ⟨wd168, hx169, hw⟩ := x_put (P := Try.prog) (ty := 0) (t := 25) (x := (Operand.tmp 4)) (y := (Operand.tmp 58)) (off := 0) (p := ad10) (v := .agg (eSapi_Regs.enc a0).toArray) (vs := (eSapi_Regs.enc a0)) (i := 0) (e' := ((a0 : Sapi_Regs) : Sapi_Regs)) hs hw rfl (one_ok (⟨(Vector.replicate 16 0), 0, false, false, false, false⟩ : Sapi_Regs)).1 (one_ok (⟨(Vector.replicate 16 0), 0, false, false, false, false⟩ : Sapi_Regs)).2 (by kernel_rfl) (one_at _ _) (by kernel_rfl) rfl (by kernel_rfl) (Nat.le_of_ble_eq_true rfl) (eSapi_Regs.one _) (by kernel_rfl)
               refine go_unit hs (op := (Op.store 25 (Operand.tmp 4) (Operand.tmp 58))) (ty := 0) (dst := none) (g := none) (by kernel_rfl) (by kernel_rfl) (by kernel_rfl) hx169 [4] (L' := [(4, .pointer (some ad10))]) (by kernel_rfl) ?_
               clear hs; intro a hs
               replace hw : St [] w0 wd168 [own 25 eSapi_Regs (some ad10) 1 [(a0 : Sapi_Regs)], own 25 eSapi_Regs (some ad41) 1 [(a0 : Sapi_Regs)], own 27 eSapi_Instr (some ad6) 1 [a1], own 25 eSapi_Regs (some ad2) 1 [a0]] := hw
               refine go_pvs 2 3 [4, 5] hs (L' := [(4, .pointer (some ad10)), (5, .int .i64 5)]) (by kernel_rfl) ?_ rfl
               clear hs; intro a hs
               refine go_end (by kernel_rfl) ?_
               refine hK167 _ _ ?_
               refine wp_ret ?_
               refine th_ret ?_
               refine ib_ret ?_
               refine th_ret ?_
               obtain rfl := Option.some.inj H
               refine ret2g (L := [(4, .pointer (some ad10)), (5, .int .i64 5)]) (r1 := .cell 4 25) (v1 := .agg (eSapi_Regs.enc (a0 : Sapi_Regs)).toArray) (r2 := .tmp 5) (v2 := .int .i64 5) hs (by kernel_rfl) ⟨_, (show lk 4 [(4, .pointer (some ad10)), (5, .int .i64 5)] = some (.pointer (some ad10)) by kernel_rfl), lv_row (E := eSapi_Regs) (x := (a0 : Sapi_Regs)) (by kernel_rfl) (by kernel_rfl) (Rd.of_own (hw.up 0))⟩ (show lk 5 [(4, .pointer (some ad10)), (5, .int .i64 5)] = some (.int .i64 5) by kernel_rfl) ?_
               exact ⟨rfl, hw.only 0⟩
              ·replace H := ite_t H (nf hc)
               have hb170 := hc
               rw [hb170] at hs
               refine wp_skip ?_
               refine hK164 _ _ ?_
               refine go_seq_k fun K171 hK171 => ?_
               refine go_region ?_
               refine go_pvs 0 2 [3, 4, 8, 9, 11] hs (L' := [(3, .pointer (some ad6)), (4, .pointer (some ad10)), (8, .int .u32 t158), (9, .pointer (some ad41)), (11, .int .u32 t159)]) (by kernel_rfl) ?_ rfl
               clear hs; intro a hs
               refine go_end (by kernel_rfl) ?_
               refine hK171 _ _ ?_
               refine go_region ?_
               refine go_pvs 0 2 [3, 4, 8, 9, 60, 61] hs (L' := [(3, .pointer (some ad6)), (4, .pointer (some ad10)), (8, .int .u32 t158), (9, .pointer (some ad41)), (60, .int .u32 t159), (61, .pointer (some ((ad41 : Addr).add 16)))]) (by kernel_rfl) ?_ rfl
               clear hs; intro a hs
               obtain ⟨wd172, hx173, hw⟩ := x_put (P := Try.prog) (ty := 0) (t := 22) (x := (Operand.tmp 61)) (y := (Operand.tmp 60)) (off := 16) (p := (ad41 : Addr).add 16) (v := .int .u32 t159) (vs := [.int .u32 t159]) (i := 0) (e' := (({ (a0 : Sapi_Regs) with H := t159 } : Sapi_Regs) : Sapi_Regs)) hs hw rfl (one_ok (a0 : Sapi_Regs)).1 (one_ok (a0 : Sapi_Regs)).2 (by kernel_rfl) (one_off _ _ _) (by kernel_rfl) rfl (by kernel_rfl) (Nat.le_of_ble_eq_true rfl) (by simp [Value.oneCell']) (by kernel_rfl)
               refine go_unit hs (op := (Op.store 22 (Operand.tmp 61) (Operand.tmp 60))) (ty := 0) (dst := none) (g := none) (by kernel_rfl) (by kernel_rfl) (by kernel_rfl) hx173 [3, 4, 8, 9] (L' := [(3, .pointer (some ad6)), (4, .pointer (some ad10)), (8, .int .u32 t158), (9, .pointer (some ad41))]) (by kernel_rfl) ?_
               clear hs; intro a hs
               replace hw : St [] w0 wd172 [own 25 eSapi_Regs (some ad41) 1 [({ (a0 : Sapi_Regs) with H := t159 } : Sapi_Regs)], own 25 eSapi_Regs (some ad10) 1 [(⟨(Vector.replicate 16 0), 0, false, false, false, false⟩ : Sapi_Regs)], own 27 eSapi_Instr (some ad6) 1 [a1], own 25 eSapi_Regs (some ad2) 1 [a0]] := hw
               refine go_end (by kernel_rfl) ?_
               refine ib_norm ?_
               replace hw := hw.up 3
               replace hw := hw.up 3
               replace hw := hw.up 3
               replace hw := hw.up 3
               replace hw := hw.only 4
               exact hJ4 ({ (a0 : Sapi_Regs) with H := t159 } : Sapi_Regs) t158 _ _ (hs.keep [3, 4, 8, 9] (by kernel_rfl)) hw H
  refine go_seq_k fun K35 hK35 => ?_
  refine go_region ?_
  refine go_pvs 0 1 [2, 3, 4, 6, 7, 42] hs (L' := [(2, .pointer (some ad2)), (3, .pointer (some ad6)), (4, .pointer (some ad10)), (6, .int .u32 (vx 0 a0.R (a1.B : Int).toNat)), (7, .int .u32 (vx 0 a0.R (a1.C : Int).toNat)), (42, .pointer (some ((ad6 : Addr).add 0)))]) (by kernel_rfl) ?_ rfl
  clear hs; intro a hs
  refine go_run hs (op := (Op.load 3 (Operand.tmp 42))) (ty := 3) (dst := some 43) (g := none) (by kernel_rfl) (by kernel_rfl) (by kernel_rfl) (x_ld (E := eSapi_Instr) (off := 0) (p := (ad6 : Addr).add 0) (v := .int .i64 a1.Kind) (Rd.of_own (hw.up 1)) (one_ok a1).1 (one_ok a1).2 (by kernel_rfl) (one_off _ _ _) (by kernel_rfl) (by kernel_rfl)) [2, 3, 4, 6, 7, 43] (L' := [(2, .pointer (some ad2)), (3, .pointer (some ad6)), (4, .pointer (some ad10)), (6, .int .u32 (vx 0 a0.R (a1.B : Int).toNat)), (7, .int .u32 (vx 0 a0.R (a1.C : Int).toNat)), (43, .int .i64 a1.Kind)]) (by kernel_rfl) ?_
  clear hs; intro a hs
  refine go_pvs 2 3 [2, 3, 4, 6, 7, 44] hs (L' := [(2, .pointer (some ad2)), (3, .pointer (some ad6)), (4, .pointer (some ad10)), (6, .int .u32 (vx 0 a0.R (a1.B : Int).toNat)), (7, .int .u32 (vx 0 a0.R (a1.C : Int).toNat)), (44, .bool (a1.Kind == 2))]) (by kernel_rfl) ?_ rfl
  clear hs; intro a hs
  refine go_end (by kernel_rfl) ?_
  refine hK35 _ _ ?_
  refine go_cond hs (a1.Kind == 2) (by kernel_rfl) (fun hc => ?_) (fun hc => ?_)
  ·replace H := ite_t H (beq_iff_eq.1 hc)
   have hb36 := hc
   rw [hb36] at hs
   refine go_region ?_
   refine go_pvs 0 1 [2, 3, 4, 6, 45] hs (L' := [(2, .pointer (some ad2)), (3, .pointer (some ad6)), (4, .pointer (some ad10)), (6, .int .u32 (vx 0 a0.R (a1.B : Int).toNat)), (45, .pointer (some ((ad6 : Addr).add 5)))]) (by kernel_rfl) ?_ rfl
   clear hs; intro a hs
   refine go_run hs (op := (Op.load 3 (Operand.tmp 45))) (ty := 3) (dst := some 46) (g := none) (by kernel_rfl) (by kernel_rfl) (by kernel_rfl) (x_ld (E := eSapi_Instr) (off := 5) (p := (ad6 : Addr).add 5) (v := .int .i64 a1.Imm) (Rd.of_own (hw.up 1)) (one_ok a1).1 (one_ok a1).2 (by kernel_rfl) (one_off _ _ _) (by kernel_rfl) (by kernel_rfl)) [2, 3, 4, 6, 46] (L' := [(2, .pointer (some ad2)), (3, .pointer (some ad6)), (4, .pointer (some ad10)), (6, .int .u32 (vx 0 a0.R (a1.B : Int).toNat)), (46, .int .i64 a1.Imm)]) (by kernel_rfl) ?_
   clear hs; intro a hs
   refine go_pvs 2 4 [2, 3, 4, 6, 7] hs (L' := [(2, .pointer (some ad2)), (3, .pointer (some ad6)), (4, .pointer (some ad10)), (6, .int .u32 (vx 0 a0.R (a1.B : Int).toNat)), (7, .int .u32 (wu32 a1.Imm))]) (by kernel_rfl) ?_ rfl
   clear hs; intro a hs
   refine go_end (by kernel_rfl) ?_
   replace hw := hw.up 2
   replace hw := hw.up 2
   replace hw := hw.up 2
   replace hw := hw.only 3
   exact hJ3 (wu32 a1.Imm) _ _ (hs.keep [2, 3, 4, 6, 7] (by kernel_rfl)) hw H
  ·replace H := ite_f H (beq_eq_false_iff_ne.1 hc)
   have hb37 := hc
   rw [hb37] at hs
   refine wp_skip ?_
   replace hw := hw.up 2
   replace hw := hw.up 2
   replace hw := hw.up 2
   replace hw := hw.only 3
   exact hJ3 (vx 0 a0.R (a1.C : Int).toNat) _ _ (hs.keep [2, 3, 4, 6, 7] (by kernel_rfl)) hw H
 refine go_seq_k fun K15 hK15 => ?_
 have hJ1 : ∀ (v24 : Bool) (a : Act) (w : World), Slots a 197 [(2, .pointer (some ad2)), (3, .pointer (some ad6)), (4, .pointer (some ad10)), (30, .bool v24)] → St [] w0 w [own 25 eSapi_Regs (some ad10) 1 [(⟨(Vector.replicate 16 0), 0, false, false, false, false⟩ : Sapi_Regs)], own 27 eSapi_Instr (some ad6) 1 [a1], own 25 eSapi_Regs (some ad2) 1 [a0]] → rivetref04_Do.j1 a0 a1 v24 = some r → K15 a w := by
  intro v24 a w hs hw H
  unfold rivetref04_Do.j1 at H
  refine hK15 _ _ ?_
  refine go_cond hs v24 (by kernel_rfl) (fun hc => ?_) (fun hc => ?_)
  ·replace H := ite_t H hc
   have hb25 := hc
   rw [hb25] at hs
   refine go_seq_k fun K26 hK26 => ?_
   refine go_region ?_
   refine go_run hs (op := (Op.load 25 (Operand.tmp 2))) (ty := 25) (dst := some 31) (g := none) (by kernel_rfl) (by kernel_rfl) (by kernel_rfl) (x_lds (E := eSapi_Regs) (off := 0) (p := ad2) (cs := (eSapi_Regs.enc a0)) (Rd.of_own (hw.up 2)) (one_ok a0).1 (one_ok a0).2 (by kernel_rfl) (one_at _ _) (by kernel_rfl) (by kernel_rfl) (by kernel_rfl)) [4, 31] (L' := [(4, .pointer (some ad10)), (31, .agg (eSapi_Regs.enc a0).toArray)]) (by kernel_rfl) ?_
   clear hs; intro a hs
   obtain ⟨wd27, hx28, hw⟩ := x_put (P := Try.prog) (ty := 0) (t := 25) (x := (Operand.tmp 4)) (y := (Operand.tmp 31)) (off := 0) (p := ad10) (v := .agg (eSapi_Regs.enc a0).toArray) (vs := (eSapi_Regs.enc a0)) (i := 0) (e' := ((a0 : Sapi_Regs) : Sapi_Regs)) hs hw rfl (one_ok (⟨(Vector.replicate 16 0), 0, false, false, false, false⟩ : Sapi_Regs)).1 (one_ok (⟨(Vector.replicate 16 0), 0, false, false, false, false⟩ : Sapi_Regs)).2 (by kernel_rfl) (one_at _ _) (by kernel_rfl) rfl (by kernel_rfl) (Nat.le_of_ble_eq_true rfl) (eSapi_Regs.one _) (by kernel_rfl)
   refine go_unit hs (op := (Op.store 25 (Operand.tmp 4) (Operand.tmp 31))) (ty := 0) (dst := none) (g := none) (by kernel_rfl) (by kernel_rfl) (by kernel_rfl) hx28 [4] (L' := [(4, .pointer (some ad10))]) (by kernel_rfl) ?_
   clear hs; intro a hs
   replace hw : St [] w0 wd27 [own 25 eSapi_Regs (some ad10) 1 [(a0 : Sapi_Regs)], own 27 eSapi_Instr (some ad6) 1 [a1], own 25 eSapi_Regs (some ad2) 1 [a0]] := hw
   refine go_pvs 2 3 [4, 5] hs (L' := [(4, .pointer (some ad10)), (5, .int .i64 0)]) (by kernel_rfl) ?_ rfl
   clear hs; intro a hs
   refine go_end (by kernel_rfl) ?_
   refine hK26 _ _ ?_
   refine wp_ret ?_
   refine th_ret ?_
   obtain rfl := Option.some.inj H
   refine ret2g (L := [(4, .pointer (some ad10)), (5, .int .i64 0)]) (r1 := .cell 4 25) (v1 := .agg (eSapi_Regs.enc (a0 : Sapi_Regs)).toArray) (r2 := .tmp 5) (v2 := .int .i64 0) hs (by kernel_rfl) ⟨_, (show lk 4 [(4, .pointer (some ad10)), (5, .int .i64 0)] = some (.pointer (some ad10)) by kernel_rfl), lv_row (E := eSapi_Regs) (x := (a0 : Sapi_Regs)) (by kernel_rfl) (by kernel_rfl) (Rd.of_own (hw.up 0))⟩ (show lk 5 [(4, .pointer (some ad10)), (5, .int .i64 0)] = some (.int .i64 0) by kernel_rfl) ?_
   exact ⟨rfl, hw.only 0⟩
  ·replace H := ite_f H (ff hc)
   have hb29 := hc
   rw [hb29] at hs
   refine wp_skip ?_
   replace hw := hw.up 2
   replace hw := hw.up 2
   replace hw := hw.up 2
   replace hw := hw.only 3
   exact hJ2 _ _ (hs.keep [2, 3, 4] (by kernel_rfl)) hw H
 refine go_region ?_
 refine go_run hs (op := (Op.load 27 (Operand.tmp 3))) (ty := 27) (dst := some 13) (g := none) (by kernel_rfl) (by kernel_rfl) (by kernel_rfl) (x_lds (E := eSapi_Instr) (off := 0) (p := ad6) (cs := (eSapi_Instr.enc a1)) (Rd.of_own (hw.up 1)) (one_ok a1).1 (one_ok a1).2 (by kernel_rfl) (one_at _ _) (by kernel_rfl) (by kernel_rfl) (by kernel_rfl)) [2, 3, 4, 13] (L' := [(2, .pointer (some ad2)), (3, .pointer (some ad6)), (4, .pointer (some ad10)), (13, .agg (eSapi_Instr.enc a1).toArray)]) (by kernel_rfl) ?_
 clear hs; intro a hs
 obtain ⟨t17, hx18, H⟩ := bind_some H
 refine go_call hs (op := (Op.call { callee := (Callee.value (Operand.func 20)), args := #[(Operand.tmp 13)], argTypes := #[27] })) (ty := 4) (dst := some 14) (g := none) (by kernel_rfl) (by kernel_rfl) (by kernel_rfl) (f := 20) (args := #[.agg (eSapi_Instr.enc a1).toArray]) (by kernel_rfl) (rivetref03_May.calls a1 t17 _ hx18) ?_
 rintro e wd19 ⟨rfl, hw20⟩
 refine ⟨_, rfl, ?_⟩
 replace hw := hw.call hw20
 intro a hs1
 replace hs : Slots a 197 [(2, .pointer (some ad2)), (3, .pointer (some ad6)), (4, .pointer (some ad10)), (14, .bool t17)] := hs1.keep [2, 3, 4, 14] (by kernel_rfl)
 clear hs1
 refine go_pvs 2 4 [2, 3, 4, 16] hs (L' := [(2, .pointer (some ad2)), (3, .pointer (some ad6)), (4, .pointer (some ad10)), (16, .bool (!t17))]) (by kernel_rfl) ?_ rfl
 clear hs; intro a hs
 cases hb21 : (!t17)
 ·replace H := ite_t H (nf hb21)
  rw [hb21] at hs
  refine go_pvs 4 5 [2, 3, 4, 16, 17] hs (L' := [(2, .pointer (some ad2)), (3, .pointer (some ad6)), (4, .pointer (some ad10)), (16, .bool false), (17, .pointer (some ((ad6 : Addr).add 0)))]) (by kernel_rfl) ?_ rfl
  clear hs; intro a hs
  refine go_run hs (op := (Op.load 3 (Operand.tmp 17))) (ty := 3) (dst := some 18) (g := some (3, false)) (by kernel_rfl) (by kernel_rfl) (by kernel_rfl) (x_ld (E := eSapi_Instr) (off := 0) (p := (ad6 : Addr).add 0) (v := .int .i64 a1.Kind) (Rd.of_own (hw.up 1)) (one_ok a1).1 (one_ok a1).2 (by kernel_rfl) (one_off _ _ _) (by kernel_rfl) (by kernel_rfl)) [2, 3, 4, 16, 18] (L' := [(2, .pointer (some ad2)), (3, .pointer (some ad6)), (4, .pointer (some ad10)), (16, .bool false), (18, .int .i64 a1.Kind)]) (by kernel_rfl) ?_
  clear hs; intro a hs
  refine go_pvs 6 9 [2, 3, 4, 21] hs (L' := [(2, .pointer (some ad2)), (3, .pointer (some ad6)), (4, .pointer (some ad10)), (21, .bool (a1.Kind == 5))]) (by kernel_rfl) ?_ rfl
  clear hs; intro a hs
  cases hb22 : (a1.Kind == 5)
  ·replace H := ite_f H (beq_eq_false_iff_ne.1 hb22)
   rw [hb22] at hs
   refine go_pvs 9 10 [2, 3, 4, 21, 22] hs (L' := [(2, .pointer (some ad2)), (3, .pointer (some ad6)), (4, .pointer (some ad10)), (21, .bool false), (22, .pointer (some ((ad6 : Addr).add 0)))]) (by kernel_rfl) ?_ rfl
   clear hs; intro a hs
   refine go_run hs (op := (Op.load 3 (Operand.tmp 22))) (ty := 3) (dst := some 23) (g := some (8, false)) (by kernel_rfl) (by kernel_rfl) (by kernel_rfl) (x_ld (E := eSapi_Instr) (off := 0) (p := (ad6 : Addr).add 0) (v := .int .i64 a1.Kind) (Rd.of_own (hw.up 1)) (one_ok a1).1 (one_ok a1).2 (by kernel_rfl) (one_off _ _ _) (by kernel_rfl) (by kernel_rfl)) [2, 3, 4, 21, 23] (L' := [(2, .pointer (some ad2)), (3, .pointer (some ad6)), (4, .pointer (some ad10)), (21, .bool false), (23, .int .i64 a1.Kind)]) (by kernel_rfl) ?_
   clear hs; intro a hs
   refine go_pvs 11 14 [2, 3, 4, 26] hs (L' := [(2, .pointer (some ad2)), (3, .pointer (some ad6)), (4, .pointer (some ad10)), (26, .bool (a1.Kind == 6))]) (by kernel_rfl) ?_ rfl
   clear hs; intro a hs
   cases hb23 : (a1.Kind == 6)
   ·replace H := ite_f H (beq_eq_false_iff_ne.1 hb23)
    rw [hb23] at hs
    refine go_pvs 14 15 [2, 3, 4, 26, 27] hs (L' := [(2, .pointer (some ad2)), (3, .pointer (some ad6)), (4, .pointer (some ad10)), (26, .bool false), (27, .pointer (some ((ad6 : Addr).add 0)))]) (by kernel_rfl) ?_ rfl
    clear hs; intro a hs
    refine go_run hs (op := (Op.load 3 (Operand.tmp 27))) (ty := 3) (dst := some 28) (g := some (13, false)) (by kernel_rfl) (by kernel_rfl) (by kernel_rfl) (x_ld (E := eSapi_Instr) (off := 0) (p := (ad6 : Addr).add 0) (v := .int .i64 a1.Kind) (Rd.of_own (hw.up 1)) (one_ok a1).1 (one_ok a1).2 (by kernel_rfl) (one_off _ _ _) (by kernel_rfl) (by kernel_rfl)) [2, 3, 4, 26, 28] (L' := [(2, .pointer (some ad2)), (3, .pointer (some ad6)), (4, .pointer (some ad10)), (26, .bool false), (28, .int .i64 a1.Kind)]) (by kernel_rfl) ?_
    clear hs; intro a hs
    refine go_pvs 16 18 [2, 3, 4, 30] hs (L' := [(2, .pointer (some ad2)), (3, .pointer (some ad6)), (4, .pointer (some ad10)), (30, .bool (a1.Kind == 7))]) (by kernel_rfl) ?_ rfl
    clear hs; intro a hs
    refine go_end (by kernel_rfl) ?_
    replace hw := hw.up 2
    replace hw := hw.up 2
    replace hw := hw.up 2
    replace hw := hw.only 3
    exact hJ1 (a1.Kind == 7) _ _ (hs.keep [2, 3, 4, 30] (by kernel_rfl)) hw H
   ·replace H := ite_t H (beq_iff_eq.1 hb23)
    rw [hb23] at hs
    refine go_pvs 14 18 [2, 3, 4, 30] hs (L' := [(2, .pointer (some ad2)), (3, .pointer (some ad6)), (4, .pointer (some ad10)), (30, .bool true)]) (by kernel_rfl) ?_ rfl
    clear hs; intro a hs
    refine go_end (by kernel_rfl) ?_
    replace hw := hw.up 2
    replace hw := hw.up 2
    replace hw := hw.up 2
    replace hw := hw.only 3
    exact hJ1 true _ _ (hs.keep [2, 3, 4, 30] (by kernel_rfl)) hw H
  ·replace H := ite_t H (beq_iff_eq.1 hb22)
   rw [hb22] at hs
   refine go_pvs 9 18 [2, 3, 4, 30] hs (L' := [(2, .pointer (some ad2)), (3, .pointer (some ad6)), (4, .pointer (some ad10)), (30, .bool true)]) (by kernel_rfl) ?_ rfl
   clear hs; intro a hs
   refine go_end (by kernel_rfl) ?_
   replace hw := hw.up 2
   replace hw := hw.up 2
   replace hw := hw.up 2
   replace hw := hw.only 3
   exact hJ1 true _ _ (hs.keep [2, 3, 4, 30] (by kernel_rfl)) hw H
 ·replace H := ite_f H (ff (nt hb21))
  rw [hb21] at hs
  refine go_pvs 4 18 [2, 3, 4, 30] hs (L' := [(2, .pointer (some ad2)), (3, .pointer (some ad6)), (4, .pointer (some ad10)), (30, .bool true)]) (by kernel_rfl) ?_ rfl
  clear hs; intro a hs
  refine go_end (by kernel_rfl) ?_
  replace hw := hw.up 2
  replace hw := hw.up 2
  replace hw := hw.up 2
  replace hw := hw.only 3
  exact hJ1 true _ _ (hs.keep [2, 3, 4, 30] (by kernel_rfl)) hw H

/-! rivet/rivetlaw04.shown: function 10 -/
noncomputable def rivetlaw04_shown.j1 (v30 : Bool) : Option Bool := some v30
noncomputable def rivetlaw04_shown : Option Bool := ((alu_Do ({ (⟨(Vector.replicate 16 0), 0, false, false, false, false⟩ : Sapi_Regs) with R := vset (Vector.replicate 16 0) 1 7 } : Sapi_Regs) (⟨2, 9, 2, 1, 0, 9, false⟩ : Sapi_Instr)).bind fun ⟨t14, t15⟩ => ((if (vx 0 ((t14 : Sapi_Regs).R) 2) = 4294967294 then (if ((t14 : Sapi_Regs).N) = true then (if ((t14 : Sapi_Regs).C) = true then (if ((t14 : Sapi_Regs).Z) = true then rivetlaw04_shown.j1 false else rivetlaw04_shown.j1 (t15 == 0)) else rivetlaw04_shown.j1 false) else rivetlaw04_shown.j1 false) else rivetlaw04_shown.j1 false)))
set_option maxRecDepth 100000 in
set_option maxHeartbeats 4000000 in
theorem rivetlaw04_shown.calls (r : Bool) (w0 : World) (H : rivetlaw04_shown = some r) :
    Calls Try.prog 10 #[] w0 fun e w' => e = .returned (.bool r) ∧ St [] w0 w' [] := by
 have hw : St [] w0 w0 [] := St.nil w0
 unfold rivetlaw04_shown at H
 refine go_fn Try.func10 rfl 34 Try.ntmps10 [] (by kernel_rfl) rfl ?_
 intro a hs
 refine go_seq_k fun K1 hK1 => ?_
 refine go_region ?_
 refine go_pvs 0 1 [] hs (L' := []) (by kernel_rfl) ?_ rfl
 clear hs; intro a hs
 refine go_end (by kernel_rfl) ?_
 refine hK1 _ _ ?_
 refine go_seq_k fun K2 hK2 => ?_
 refine go_region ?_
 refine go_pvs 0 1 [4] hs (L' := [(4, .agg (eSapi_Regs.enc (⟨(Vector.replicate 16 0), 0, false, false, false, false⟩ : Sapi_Regs)).toArray)]) (by kernel_rfl) ?_ rfl
 clear hs; intro a hs
 obtain ⟨ad3, wd4, hx5, hw⟩ := x_alloc1 (P := Try.prog) (elem := 25) (ty := 0) (z := .agg (eSapi_Regs.enc (⟨(Vector.replicate 16 0), 0, false, false, false, false⟩ : Sapi_Regs)).toArray) hs hw eSapi_Regs (⟨(Vector.replicate 16 0), 0, false, false, false, false⟩ : Sapi_Regs) (by kernel_rfl) (by kernel_rfl)
 refine go_run hs (op := (Op.alloc 25)) (ty := 0) (dst := some 1) (g := none) (by kernel_rfl) (by kernel_rfl) (by kernel_rfl) hx5 [1, 4] (L' := [(1, .pointer (some ad3)), (4, .agg (eSapi_Regs.enc (⟨(Vector.replicate 16 0), 0, false, false, false, false⟩ : Sapi_Regs)).toArray)]) (by kernel_rfl) ?_
 clear hs; intro a hs
 obtain ⟨wd7, hx8, hw⟩ := x_put (P := Try.prog) (ty := 0) (t := 25) (x := (Operand.tmp 1)) (y := (Operand.tmp 4)) (off := 0) (p := ad3) (v := .agg (eSapi_Regs.enc (⟨(Vector.replicate 16 0), 0, false, false, false, false⟩ : Sapi_Regs)).toArray) (vs := (eSapi_Regs.enc (⟨(Vector.replicate 16 0), 0, false, false, false, false⟩ : Sapi_Regs))) (i := 0) (e' := ((⟨(Vector.replicate 16 0), 0, false, false, false, false⟩ : Sapi_Regs) : Sapi_Regs)) hs hw rfl (one_ok (⟨(Vector.replicate 16 0), 0, false, false, false, false⟩ : Sapi_Regs)).1 (one_ok (⟨(Vector.replicate 16 0), 0, false, false, false, false⟩ : Sapi_Regs)).2 (by kernel_rfl) (one_at _ _) (by kernel_rfl) rfl (by kernel_rfl) (Nat.le_of_ble_eq_true rfl) (eSapi_Regs.one _) (by kernel_rfl)
 refine go_unit hs (op := (Op.store 25 (Operand.tmp 1) (Operand.tmp 4))) (ty := 0) (dst := none) (g := none) (by kernel_rfl) (by kernel_rfl) (by kernel_rfl) hx8 [1] (L' := [(1, .pointer (some ad3))]) (by kernel_rfl) ?_
 clear hs; intro a hs
 replace hw : St [] w0 wd7 [own 25 eSapi_Regs (some ad3) 1 [(⟨(Vector.replicate 16 0), 0, false, false, false, false⟩ : Sapi_Regs)]] := hw
 refine go_end (by kernel_rfl) ?_
 refine hK2 _ _ ?_
 refine go_seq_k fun K9 hK9 => ?_
 refine go_region ?_
 refine go_pvs 0 1 [1, 5] hs (L' := [(1, .pointer (some ad3)), (5, .pointer (some ((ad3 : Addr).add 0)))]) (by kernel_rfl) ?_ rfl
 clear hs; intro a hs
 refine go_run hs (op := (Op.indexAddr 23 (Operand.tmp 5) (Operand.const (Value.int IntKind.i64 1)))) (ty := 0) (dst := some 6) (g := none) (by kernel_rfl) (by kernel_rfl) (by kernel_rfl) (x_vidx (e := 22) (p := (ad3 : Addr).add 0) (n := 16) (k := .i64) (i := 1) (sz := 1) (by kernel_rfl) (by kernel_rfl) (by kernel_rfl) (by kernel_rfl) (⟨by decide, by decide⟩ : (0 : Int) ≤ 1 ∧ (1 : Int) < ((16 : Nat) : Int)).1 (⟨by decide, by decide⟩ : (0 : Int) ≤ 1 ∧ (1 : Int) < ((16 : Nat) : Int)).2) [1, 6] (L' := [(1, .pointer (some ad3)), (6, .pointer (some (((ad3 : Addr).add 0 : Addr).add ((1 : Int).toNat * 1))))]) (by kernel_rfl) ?_
 clear hs; intro a hs
 obtain ⟨wd10, hx11, hw⟩ := x_put (P := Try.prog) (ty := 0) (t := 22) (x := (Operand.tmp 6)) (y := (Operand.const (Value.int IntKind.u32 7))) (off := 0 + 1 * 1) (p := ((ad3 : Addr).add 0 : Addr).add ((1 : Int).toNat * 1)) (v := .int .u32 7) (vs := [.int .u32 7]) (i := 0) (e' := (({ (⟨(Vector.replicate 16 0), 0, false, false, false, false⟩ : Sapi_Regs) with R := vset (Vector.replicate 16 0) 1 7 } : Sapi_Regs) : Sapi_Regs)) hs hw rfl (one_ok (⟨(Vector.replicate 16 0), 0, false, false, false, false⟩ : Sapi_Regs)).1 (one_ok (⟨(Vector.replicate 16 0), 0, false, false, false, false⟩ : Sapi_Regs)).2 (by kernel_rfl) (by simp only [add_add', Int.toNat_zero, Nat.zero_mul, Nat.zero_add, Nat.mul_one] <;> rfl) (by kernel_rfl) rfl (by kernel_rfl) (by have := (⟨by decide, by decide⟩ : (0 : Int) ≤ 1 ∧ (1 : Int) < ((16 : Nat) : Int)); show 0 + _ * 1 + 1 ≤ 21; omega) (by simp [Value.oneCell']) (vput (cs := eSapi_Regs.enc (⟨(Vector.replicate 16 0), 0, false, false, false, false⟩ : Sapi_Regs)) (cs' := eSapi_Regs.enc ({ (⟨(Vector.replicate 16 0), 0, false, false, false, false⟩ : Sapi_Regs) with R := vset (Vector.replicate 16 0) 1 7 } : Sapi_Regs)) (pre := []) (post := [.int .u32 0, .bool false, .bool false, .bool false, .bool false]) (f := (fun j : Nat => .int .u32 (vx 0 (Vector.replicate 16 0) j))) (f' := (fun j : Nat => .int .u32 (vx 0 (vset (Vector.replicate 16 0) 1 7) j))) (n := 16) (o := 0) (i := 1) (v := .int .u32 7) (by kernel_rfl) (by kernel_rfl) rfl (by have := (⟨by decide, by decide⟩ : (0 : Int) ≤ 1 ∧ (1 : Int) < ((16 : Nat) : Int)); omega) (vx_put (by have := (⟨by decide, by decide⟩ : (0 : Int) ≤ 1 ∧ (1 : Int) < ((16 : Nat) : Int)); omega)))
 refine go_unit hs (op := (Op.store 22 (Operand.tmp 6) (Operand.const (Value.int IntKind.u32 7)))) (ty := 0) (dst := none) (g := none) (by kernel_rfl) (by kernel_rfl) (by kernel_rfl) hx11 [1] (L' := [(1, .pointer (some ad3))]) (by kernel_rfl) ?_
 clear hs; intro a hs
 replace hw : St [] w0 wd10 [own 25 eSapi_Regs (some ad3) 1 [({ (⟨(Vector.replicate 16 0), 0, false, false, false, false⟩ : Sapi_Regs) with R := vset (Vector.replicate 16 0) 1 7 } : Sapi_Regs)]] := hw
 refine go_end (by kernel_rfl) ?_
 refine hK9 _ _ ?_
 refine go_seq_k fun K12 hK12 => ?_
 refine go_region ?_
 refine go_run hs (op := (Op.load 25 (Operand.tmp 1))) (ty := 25) (dst := some 8) (g := none) (by kernel_rfl) (by kernel_rfl) (by kernel_rfl) (x_lds (E := eSapi_Regs) (off := 0) (p := ad3) (cs := (eSapi_Regs.enc ({ (⟨(Vector.replicate 16 0), 0, false, false, false, false⟩ : Sapi_Regs) with R := vset (Vector.replicate 16 0) 1 7 } : Sapi_Regs))) (Rd.of_own (hw.up 0)) (one_ok ({ (⟨(Vector.replicate 16 0), 0, false, false, false, false⟩ : Sapi_Regs) with R := vset (Vector.replicate 16 0) 1 7 } : Sapi_Regs)).1 (one_ok ({ (⟨(Vector.replicate 16 0), 0, false, false, false, false⟩ : Sapi_Regs) with R := vset (Vector.replicate 16 0) 1 7 } : Sapi_Regs)).2 (by kernel_rfl) (one_at _ _) (by kernel_rfl) (by kernel_rfl) (by kernel_rfl)) [8] (L' := [(8, .agg (eSapi_Regs.enc ({ (⟨(Vector.replicate 16 0), 0, false, false, false, false⟩ : Sapi_Regs) with R := vset (Vector.replicate 16 0) 1 7 } : Sapi_Regs)).toArray)]) (by kernel_rfl) ?_
 clear hs; intro a hs
 refine go_pvs 1 2 [8, 9] hs (L' := [(8, .agg (eSapi_Regs.enc ({ (⟨(Vector.replicate 16 0), 0, false, false, false, false⟩ : Sapi_Regs) with R := vset (Vector.replicate 16 0) 1 7 } : Sapi_Regs)).toArray), (9, .agg (eSapi_Instr.enc (⟨2, 9, 2, 1, 0, 9, false⟩ : Sapi_Instr)).toArray)]) (by kernel_rfl) ?_ rfl
 clear hs; intro a hs
 obtain ⟨⟨t14, t15⟩, hx16, H⟩ := bind_some H
 refine go_call hs (op := (Op.call { callee := (Callee.value (Operand.func 12)), args := #[(Operand.tmp 8), (Operand.tmp 9)], argTypes := #[25, 27] })) (ty := 30) (dst := some 10) (g := none) (by kernel_rfl) (by kernel_rfl) (by kernel_rfl) (f := 12) (args := #[.agg (eSapi_Regs.enc ({ (⟨(Vector.replicate 16 0), 0, false, false, false, false⟩ : Sapi_Regs) with R := vset (Vector.replicate 16 0) 1 7 } : Sapi_Regs)).toArray, .agg (eSapi_Instr.enc (⟨2, 9, 2, 1, 0, 9, false⟩ : Sapi_Instr)).toArray]) (by kernel_rfl) (alu_Do.calls ({ (⟨(Vector.replicate 16 0), 0, false, false, false, false⟩ : Sapi_Regs) with R := vset (Vector.replicate 16 0) 1 7 } : Sapi_Regs) (⟨2, 9, 2, 1, 0, 9, false⟩ : Sapi_Instr) (t14, t15) _ hx16) ?_
 rintro e wd17 ⟨rfl, hw18⟩
 refine ⟨_, rfl, ?_⟩
 replace hw := hw.call hw18
 intro a hs1
 replace hs : Slots a 34 [(10, .tuple #[.agg (eSapi_Regs.enc t14).toArray, .int .i64 t15])] := hs1.keep [10] (by kernel_rfl)
 clear hs1
 refine go_pvs 3 6 [11, 12] hs (L' := [(11, .agg (eSapi_Regs.enc t14).toArray), (12, .int .i64 t15)]) (by kernel_rfl) ?_ rfl
 clear hs; intro a hs
 obtain ⟨ad19, wd20, hx21, hw⟩ := x_alloc1 (P := Try.prog) (elem := 25) (ty := 0) (z := .agg (eSapi_Regs.enc (⟨(Vector.replicate 16 0), 0, false, false, false, false⟩ : Sapi_Regs)).toArray) hs hw eSapi_Regs (⟨(Vector.replicate 16 0), 0, false, false, false, false⟩ : Sapi_Regs) (by kernel_rfl) (by kernel_rfl)
 refine go_run hs (op := (Op.alloc 25)) (ty := 0) (dst := some 2) (g := none) (by kernel_rfl) (by kernel_rfl) (by kernel_rfl) hx21 [2, 11, 12] (L' := [(2, .pointer (some ad19)), (11, .agg (eSapi_Regs.enc t14).toArray), (12, .int .i64 t15)]) (by kernel_rfl) ?_
 clear hs; intro a hs
 obtain ⟨wd23, hx24, hw⟩ := x_put (P := Try.prog) (ty := 0) (t := 25) (x := (Operand.tmp 2)) (y := (Operand.tmp 11)) (off := 0) (p := ad19) (v := .agg (eSapi_Regs.enc t14).toArray) (vs := (eSapi_Regs.enc t14)) (i := 0) (e' := ((t14 : Sapi_Regs) : Sapi_Regs)) hs hw rfl (one_ok (⟨(Vector.replicate 16 0), 0, false, false, false, false⟩ : Sapi_Regs)).1 (one_ok (⟨(Vector.replicate 16 0), 0, false, false, false, false⟩ : Sapi_Regs)).2 (by kernel_rfl) (one_at _ _) (by kernel_rfl) rfl (by kernel_rfl) (Nat.le_of_ble_eq_true rfl) (eSapi_Regs.one _) (by kernel_rfl)
 refine go_unit hs (op := (Op.store 25 (Operand.tmp 2) (Operand.tmp 11))) (ty := 0) (dst := none) (g := none) (by kernel_rfl) (by kernel_rfl) (by kernel_rfl) hx24 [2, 12] (L' := [(2, .pointer (some ad19)), (12, .int .i64 t15)]) (by kernel_rfl) ?_
 clear hs; intro a hs
 replace hw : St [] w0 wd23 [own 25 eSapi_Regs (some ad19) 1 [(t14 : Sapi_Regs)], own 25 eSapi_Regs (some ad3) 1 [({ (⟨(Vector.replicate 16 0), 0, false, false, false, false⟩ : Sapi_Regs) with R := vset (Vector.replicate 16 0) 1 7 } : Sapi_Regs)]] := hw
 refine go_pvs 8 9 [2, 3] hs (L' := [(2, .pointer (some ad19)), (3, .int .i64 t15)]) (by kernel_rfl) ?_ rfl
 clear hs; intro a hs
 refine go_end (by kernel_rfl) ?_
 refine hK12 _ _ ?_
 refine go_seq_k fun K25 hK25 => ?_
 have hJ1 : ∀ (v30 : Bool) (a : Act) (w : World), Slots a 34 [(0, .bool v30)] → St [] w0 w [own 25 eSapi_Regs (some ad19) 1 [(t14 : Sapi_Regs)], own 25 eSapi_Regs (some ad3) 1 [({ (⟨(Vector.replicate 16 0), 0, false, false, false, false⟩ : Sapi_Regs) with R := vset (Vector.replicate 16 0) 1 7 } : Sapi_Regs)]] → rivetlaw04_shown.j1 v30 = some r → K25 a w := by
  intro v30 a w hs hw H
  unfold rivetlaw04_shown.j1 at H
  refine hK25 _ _ ?_
  refine wp_ret ?_
  obtain rfl := Option.some.inj H
  refine ret1 (t := 0) (v := .bool v30) hs (by kernel_rfl) (by kernel_rfl) ?_
  exact ⟨rfl, hw.only 0⟩
 refine go_region ?_
 refine go_pvs 0 1 [2, 3, 13] hs (L' := [(2, .pointer (some ad19)), (3, .int .i64 t15), (13, .pointer (some ((ad19 : Addr).add 0)))]) (by kernel_rfl) ?_ rfl
 clear hs; intro a hs
 refine go_run hs (op := (Op.indexAddr 23 (Operand.tmp 13) (Operand.const (Value.int IntKind.i64 2)))) (ty := 0) (dst := some 14) (g := none) (by kernel_rfl) (by kernel_rfl) (by kernel_rfl) (x_vidx (e := 22) (p := (ad19 : Addr).add 0) (n := 16) (k := .i64) (i := 2) (sz := 1) (by kernel_rfl) (by kernel_rfl) (by kernel_rfl) (by kernel_rfl) (⟨by decide, by decide⟩ : (0 : Int) ≤ 2 ∧ (2 : Int) < ((16 : Nat) : Int)).1 (⟨by decide, by decide⟩ : (0 : Int) ≤ 2 ∧ (2 : Int) < ((16 : Nat) : Int)).2) [2, 3, 14] (L' := [(2, .pointer (some ad19)), (3, .int .i64 t15), (14, .pointer (some (((ad19 : Addr).add 0 : Addr).add ((2 : Int).toNat * 1))))]) (by kernel_rfl) ?_
 clear hs; intro a hs
 refine go_run hs (op := (Op.load 22 (Operand.tmp 14))) (ty := 22) (dst := some 15) (g := none) (by kernel_rfl) (by kernel_rfl) (by kernel_rfl) (x_ld (E := eSapi_Regs) (off := 2) (p := ((ad19 : Addr).add 0 : Addr).add ((2 : Int).toNat * 1)) (v := .int .u32 (vx 0 ((t14 : Sapi_Regs).R) 2)) (Rd.of_own (hw.up 0)) (one_ok (t14 : Sapi_Regs)).1 (one_ok (t14 : Sapi_Regs)).2 (by kernel_rfl) (by simp only [add_add', Int.toNat_zero, Nat.zero_mul, Nat.zero_add, Nat.mul_one] <;> rfl) (by kernel_rfl) (by kernel_rfl)) [2, 3, 15] (L' := [(2, .pointer (some ad19)), (3, .int .i64 t15), (15, .int .u32 (vx 0 ((t14 : Sapi_Regs).R) 2))]) (by kernel_rfl) ?_
 clear hs; intro a hs
 refine go_pvs 3 5 [2, 3, 17] hs (L' := [(2, .pointer (some ad19)), (3, .int .i64 t15), (17, .bool ((vx 0 ((t14 : Sapi_Regs).R) 2) == 4294967294))]) (by kernel_rfl) ?_ rfl
 clear hs; intro a hs
 cases hb26 : ((vx 0 ((t14 : Sapi_Regs).R) 2) == 4294967294)
 ·replace H := ite_f H (beq_eq_false_iff_ne.1 hb26)
  rw [hb26] at hs
  refine go_pvs 5 22 [0] hs (L' := [(0, .bool false)]) (by kernel_rfl) ?_ rfl
  clear hs; intro a hs
  refine go_end (by kernel_rfl) ?_
  replace hw := hw.up 1
  replace hw := hw.up 1
  replace hw := hw.only 2
  exact hJ1 false _ _ (hs.keep [0] (by kernel_rfl)) hw H
 ·replace H := ite_t H (beq_iff_eq.1 hb26)
  rw [hb26] at hs
  refine go_pvs 5 6 [2, 3, 17, 18] hs (L' := [(2, .pointer (some ad19)), (3, .int .i64 t15), (17, .bool true), (18, .pointer (some ((ad19 : Addr).add 17)))]) (by kernel_rfl) ?_ rfl
  clear hs; intro a hs
  refine go_run hs (op := (Op.load 4 (Operand.tmp 18))) (ty := 4) (dst := some 19) (g := some (4, true)) (by kernel_rfl) (by kernel_rfl) (by kernel_rfl) (x_ld (E := eSapi_Regs) (off := 17) (p := (ad19 : Addr).add 17) (v := .bool ((t14 : Sapi_Regs).N)) (Rd.of_own (hw.up 0)) (one_ok (t14 : Sapi_Regs)).1 (one_ok (t14 : Sapi_Regs)).2 (by kernel_rfl) (one_off _ _ _) (by kernel_rfl) (by kernel_rfl)) [2, 3, 17, 19] (L' := [(2, .pointer (some ad19)), (3, .int .i64 t15), (17, .bool true), (19, .bool ((t14 : Sapi_Regs).N))]) (by kernel_rfl) ?_
  clear hs; intro a hs
  refine go_pvs 7 9 [2, 3, 21] hs (L' := [(2, .pointer (some ad19)), (3, .int .i64 t15), (21, .bool ((t14 : Sapi_Regs).N))]) (by kernel_rfl) ?_ rfl
  clear hs; intro a hs
  cases hb27 : ((t14 : Sapi_Regs).N)
  ·replace H := ite_f H (ff hb27)
   rw [hb27] at hs
   refine go_pvs 9 22 [0] hs (L' := [(0, .bool false)]) (by kernel_rfl) ?_ rfl
   clear hs; intro a hs
   refine go_end (by kernel_rfl) ?_
   replace hw := hw.up 1
   replace hw := hw.up 1
   replace hw := hw.only 2
   exact hJ1 false _ _ (hs.keep [0] (by kernel_rfl)) hw H
  ·replace H := ite_t H hb27
   rw [hb27] at hs
   refine go_pvs 9 10 [2, 3, 21, 22] hs (L' := [(2, .pointer (some ad19)), (3, .int .i64 t15), (21, .bool true), (22, .pointer (some ((ad19 : Addr).add 19)))]) (by kernel_rfl) ?_ rfl
   clear hs; intro a hs
   refine go_run hs (op := (Op.load 4 (Operand.tmp 22))) (ty := 4) (dst := some 23) (g := some (8, true)) (by kernel_rfl) (by kernel_rfl) (by kernel_rfl) (x_ld (E := eSapi_Regs) (off := 19) (p := (ad19 : Addr).add 19) (v := .bool ((t14 : Sapi_Regs).C)) (Rd.of_own (hw.up 0)) (one_ok (t14 : Sapi_Regs)).1 (one_ok (t14 : Sapi_Regs)).2 (by kernel_rfl) (one_off _ _ _) (by kernel_rfl) (by kernel_rfl)) [2, 3, 21, 23] (L' := [(2, .pointer (some ad19)), (3, .int .i64 t15), (21, .bool true), (23, .bool ((t14 : Sapi_Regs).C))]) (by kernel_rfl) ?_
   clear hs; intro a hs
   refine go_pvs 11 13 [2, 3, 25] hs (L' := [(2, .pointer (some ad19)), (3, .int .i64 t15), (25, .bool ((t14 : Sapi_Regs).C))]) (by kernel_rfl) ?_ rfl
   clear hs; intro a hs
   cases hb28 : ((t14 : Sapi_Regs).C)
   ·replace H := ite_f H (ff hb28)
    rw [hb28] at hs
    refine go_pvs 13 22 [0] hs (L' := [(0, .bool false)]) (by kernel_rfl) ?_ rfl
    clear hs; intro a hs
    refine go_end (by kernel_rfl) ?_
    replace hw := hw.up 1
    replace hw := hw.up 1
    replace hw := hw.only 2
    exact hJ1 false _ _ (hs.keep [0] (by kernel_rfl)) hw H
   ·replace H := ite_t H hb28
    rw [hb28] at hs
    refine go_pvs 13 14 [3, 25, 26] hs (L' := [(3, .int .i64 t15), (25, .bool true), (26, .pointer (some ((ad19 : Addr).add 18)))]) (by kernel_rfl) ?_ rfl
    clear hs; intro a hs
    refine go_run hs (op := (Op.load 4 (Operand.tmp 26))) (ty := 4) (dst := some 27) (g := some (12, true)) (by kernel_rfl) (by kernel_rfl) (by kernel_rfl) (x_ld (E := eSapi_Regs) (off := 18) (p := (ad19 : Addr).add 18) (v := .bool ((t14 : Sapi_Regs).Z)) (Rd.of_own (hw.up 0)) (one_ok (t14 : Sapi_Regs)).1 (one_ok (t14 : Sapi_Regs)).2 (by kernel_rfl) (one_off _ _ _) (by kernel_rfl) (by kernel_rfl)) [3, 25, 27] (L' := [(3, .int .i64 t15), (25, .bool true), (27, .bool ((t14 : Sapi_Regs).Z))]) (by kernel_rfl) ?_
    clear hs; intro a hs
    refine go_pvs 15 18 [3, 30] hs (L' := [(3, .int .i64 t15), (30, .bool (!((t14 : Sapi_Regs).Z)))]) (by kernel_rfl) ?_ rfl
    clear hs; intro a hs
    cases hb29 : (!((t14 : Sapi_Regs).Z))
    ·replace H := ite_t H (nf hb29)
     rw [hb29] at hs
     refine go_pvs 18 22 [0] hs (L' := [(0, .bool false)]) (by kernel_rfl) ?_ rfl
     clear hs; intro a hs
     refine go_end (by kernel_rfl) ?_
     replace hw := hw.up 1
     replace hw := hw.up 1
     replace hw := hw.only 2
     exact hJ1 false _ _ (hs.keep [0] (by kernel_rfl)) hw H
    ·replace H := ite_f H (ff (nt hb29))
     rw [hb29] at hs
     refine go_pvs 18 22 [0] hs (L' := [(0, .bool (t15 == 0))]) (by kernel_rfl) ?_ rfl
     clear hs; intro a hs
     refine go_end (by kernel_rfl) ?_
     replace hw := hw.up 1
     replace hw := hw.up 1
     replace hw := hw.only 2
     exact hJ1 (t15 == 0) _ _ (hs.keep [0] (by kernel_rfl)) hw H

end Go.Proofs.Ytckefpenekolhaa.T04
