/- YtckefpenekolhaaT04: Go functions told as plain ones, each with a proof that its call comes to what is told, part 3. Condition of each: that the plain function comes to a value. -/
import Derived.Test.YtckefpenekolhaaT04b
namespace Go.Proofs.Ytckefpenekolhaa.T04
open Go Go.RowKit Go.Proofs.Ytckefpenekolhaa.E
set_option linter.unusedVariables false
set_option linter.unusedSimpArgs false

/-! rivet/alu.Do: function 12 -/
noncomputable def alu_Do.j7 (a1 : Sapi_Instr) (v282 : Sapi_Regs) (v283 : Int) : Option (Sapi_Regs × Int) := (if 0 ≤ a1.A ∧ a1.A < ((16 : Nat) : Int) then ((alu_Show ({ v282 with R := vset v282.R (a1.A : Int).toNat v283 } : Sapi_Regs) v283).bind fun t290 => (some ((t290 : Sapi_Regs), 0))) else none)
noncomputable def alu_Do.j4 (a1 : Sapi_Instr) (a0 : Sapi_Regs) (v111 : Int) : Option (Sapi_Regs × Int) := alu_Do.j7 a1 (a0 : Sapi_Regs) v111
noncomputable def alu_Do.j5 (a1 : Sapi_Instr) (v212 : Sapi_Regs) (v213 : Int) : Option (Sapi_Regs × Int) := alu_Do.j7 a1 v212 v213
noncomputable def alu_Do.j6 (a1 : Sapi_Instr) (v243 : Sapi_Regs) (v244 : Int) : Option (Sapi_Regs × Int) := alu_Do.j7 a1 v243 v244
noncomputable def alu_Do.j3 (a1 : Sapi_Instr) (a0 : Sapi_Regs) (v55 : Int) : Option (Sapi_Regs × Int) := (if 0 ≤ a1.B ∧ a1.B < ((16 : Nat) : Int) then (if 0 ≤ a1.Op ∧ a1.Op < 12 then (if a1.Op = 0 then (if a1.U = true then alu_Do.j4 a1 a0 (wu32 (v55 * 2 ^ 16)) else alu_Do.j4 a1 a0 v55) else (if a1.Op = 1 then ((word_Shift 1 (vx 0 a0.R (a1.B : Int).toNat) v55).bind fun t122 => (alu_Do.j7 a1 (a0 : Sapi_Regs) t122)) else (if a1.Op = 2 then ((word_Shift 2 (vx 0 a0.R (a1.B : Int).toNat) v55).bind fun t135 => (alu_Do.j7 a1 (a0 : Sapi_Regs) t135)) else (if a1.Op = 3 then ((word_Shift 3 (vx 0 a0.R (a1.B : Int).toNat) v55).bind fun t148 => (alu_Do.j7 a1 (a0 : Sapi_Regs) t148)) else (if a1.Op = 4 then alu_Do.j7 a1 (a0 : Sapi_Regs) (band .u32 (vx 0 a0.R (a1.B : Int).toNat) v55) else (if a1.Op = 5 then alu_Do.j7 a1 (a0 : Sapi_Regs) (bandn .u32 (vx 0 a0.R (a1.B : Int).toNat) v55) else (if a1.Op = 6 then alu_Do.j7 a1 (a0 : Sapi_Regs) (bor .u32 (vx 0 a0.R (a1.B : Int).toNat) v55) else (if a1.Op = 7 then alu_Do.j7 a1 (a0 : Sapi_Regs) (bxor .u32 (vx 0 a0.R (a1.B : Int).toNat) v55) else (if a1.Op = 8 then (if a1.U = true then ((word_Add (vx 0 a0.R (a1.B : Int).toNat) v55 ((a0 : Sapi_Regs).C)).bind fun ⟨t202, t203, t204⟩ => (alu_Do.j5 a1 ({ ({ (a0 : Sapi_Regs) with C := t203 } : Sapi_Regs) with V := t204 } : Sapi_Regs) t202)) else ((word_Add (vx 0 a0.R (a1.B : Int).toNat) v55 false).bind fun ⟨t191, t192, t193⟩ => (alu_Do.j5 a1 ({ ({ (a0 : Sapi_Regs) with C := t192 } : Sapi_Regs) with V := t193 } : Sapi_Regs) t191))) else (if a1.Op = 9 then (if a1.U = true then ((word_Sub (vx 0 a0.R (a1.B : Int).toNat) v55 ((a0 : Sapi_Regs).C)).bind fun ⟨t233, t234, t235⟩ => (alu_Do.j6 a1 ({ ({ (a0 : Sapi_Regs) with C := t234 } : Sapi_Regs) with V := t235 } : Sapi_Regs) t233)) else ((word_Sub (vx 0 a0.R (a1.B : Int).toNat) v55 false).bind fun ⟨t222, t223, t224⟩ => (alu_Do.j6 a1 ({ ({ (a0 : Sapi_Regs) with C := t223 } : Sapi_Regs) with V := t224 } : Sapi_Regs) t222))) else (if a1.Op = 10 then ((word_Mul (vx 0 a0.R (a1.B : Int).toNat) v55 a1.U).bind fun ⟨t252, t253⟩ => (alu_Do.j7 a1 ({ (a0 : Sapi_Regs) with H := t253 } : Sapi_Regs) t252)) else (if a1.Op = 11 then ((word_Div (vx 0 a0.R (a1.B : Int).toNat) v55).bind fun ⟨t266, t267, t268⟩ => ((if t268 = true then alu_Do.j7 a1 ({ (a0 : Sapi_Regs) with H := t267 } : Sapi_Regs) t266 else some ((a0 : Sapi_Regs), 5)))) else none)))))))))))) else none) else none)
noncomputable def alu_Do.j2 (a1 : Sapi_Instr) (a0 : Sapi_Regs) : Option (Sapi_Regs × Int) := (if a1.Kind = 3 then alu_Do.j7 a1 (a0 : Sapi_Regs) a0.H else (if a1.Kind = 4 then ((alu_flags a0).bind fun t44 => (alu_Do.j7 a1 (a0 : Sapi_Regs) t44)) else (if 0 ≤ a1.C ∧ a1.C < ((16 : Nat) : Int) then (if a1.Kind = 2 then alu_Do.j3 a1 a0 (wu32 a1.Imm) else alu_Do.j3 a1 a0 (vx 0 a0.R (a1.C : Int).toNat)) else none)))
noncomputable def alu_Do.j1 (a0 : Sapi_Regs) (a1 : Sapi_Instr) (v22 : Bool) : Option (Sapi_Regs × Int) := (if v22 = true then some ((a0 : Sapi_Regs), 0) else alu_Do.j2 a1 a0)
noncomputable def alu_Do (a0 : Sapi_Regs) (a1 : Sapi_Instr) : Option (Sapi_Regs × Int) := ((isa_May a1).bind fun t17 => ((if t17 = true then alu_Do.j1 a0 a1 (decide (a1.Kind ≥ 5)) else alu_Do.j1 a0 a1 true)))
set_option maxRecDepth 100000 in
set_option maxHeartbeats 4000000 in
theorem alu_Do.calls (a0 : Sapi_Regs) (a1 : Sapi_Instr) (r : Sapi_Regs × Int) (w0 : World) (H : alu_Do a0 a1 = some r) :
    Calls Try.prog 12 #[.agg (eSapi_Regs.enc a0).toArray, .agg (eSapi_Instr.enc a1).toArray] w0 fun e w' => e = .returned (.tuple #[.agg (eSapi_Regs.enc r.1).toArray, .int .i64 r.2]) ∧ St [] w0 w' [] := by
 have hw : St [] w0 w0 [] := St.nil w0
 unfold alu_Do at H
 refine go_fn Try.func12 rfl 69 Try.ntmps12 [(0, .agg (eSapi_Regs.enc a0).toArray), (1, .agg (eSapi_Instr.enc a1).toArray)] (by kernel_rfl) rfl ?_
 intro a hs
 refine go_seq_k fun K1 hK1 => ?_
 refine go_region ?_
 obtain ⟨ad2, wd3, hx4, hw⟩ := x_box1 (P := Try.prog) (elem := 25) (v := (Operand.tmp 0)) (ty := 0) hs hw eSapi_Regs a0 (by kernel_rfl)
 refine go_run hs (op := (Op.box 25 (Operand.tmp 0))) (ty := 0) (dst := some 2) (g := none) (by kernel_rfl) (by kernel_rfl) (by kernel_rfl) hx4 [1, 2] (L' := [(1, .agg (eSapi_Instr.enc a1).toArray), (2, .pointer (some ad2))]) (by kernel_rfl) ?_
 clear hs; intro a hs
 obtain ⟨ad6, wd7, hx8, hw⟩ := x_box1 (P := Try.prog) (elem := 27) (v := (Operand.tmp 1)) (ty := 0) hs hw eSapi_Instr a1 (by kernel_rfl)
 refine go_run hs (op := (Op.box 27 (Operand.tmp 1))) (ty := 0) (dst := some 3) (g := none) (by kernel_rfl) (by kernel_rfl) (by kernel_rfl) hx8 [2, 3] (L' := [(2, .pointer (some ad2)), (3, .pointer (some ad6))]) (by kernel_rfl) ?_
 clear hs; intro a hs
 obtain ⟨ad10, wd11, hx12, hw⟩ := x_alloc1 (P := Try.prog) (elem := 25) (ty := 0) (z := .agg (eSapi_Regs.enc (⟨(Vector.replicate 16 0), 0, false, false, false, false⟩ : Sapi_Regs)).toArray) hs hw eSapi_Regs (⟨(Vector.replicate 16 0), 0, false, false, false, false⟩ : Sapi_Regs) (by kernel_rfl) (by kernel_rfl)
 refine go_run hs (op := (Op.alloc 25)) (ty := 0) (dst := some 4) (g := none) (by kernel_rfl) (by kernel_rfl) (by kernel_rfl) hx12 [2, 3, 4] (L' := [(2, .pointer (some ad2)), (3, .pointer (some ad6)), (4, .pointer (some ad10))]) (by kernel_rfl) ?_
 clear hs; intro a hs
 refine go_pvs 3 4 [2, 3, 4] hs (L' := [(2, .pointer (some ad2)), (3, .pointer (some ad6)), (4, .pointer (some ad10))]) (by kernel_rfl) ?_ rfl
 clear hs; intro a hs
 refine go_end (by kernel_rfl) ?_
 refine hK1 _ _ ?_
 refine go_seq_k fun K14 hK14 => ?_
 have hJ2 : ∀ (a : Act) (w : World), Slots a 69 [(2, .pointer (some ad2)), (3, .pointer (some ad6)), (4, .pointer (some ad10))] → St [] w0 w [own 25 eSapi_Regs (some ad10) 1 [(⟨(Vector.replicate 16 0), 0, false, false, false, false⟩ : Sapi_Regs)], own 27 eSapi_Instr (some ad6) 1 [a1], own 25 eSapi_Regs (some ad2) 1 [a0]] → alu_Do.j2 a1 a0 = some r → K14 a w := by
  intro a w hs hw H
  unfold alu_Do.j2 at H
  refine hK14 _ _ ?_
  refine go_seq_k fun K28 hK28 => ?_
  refine go_region ?_
  refine go_run hs (op := (Op.load 25 (Operand.tmp 2))) (ty := 25) (dst := some 19) (g := none) (by kernel_rfl) (by kernel_rfl) (by kernel_rfl) (x_lds (E := eSapi_Regs) (off := 0) (p := ad2) (cs := (eSapi_Regs.enc a0)) (Rd.of_own (hw.up 2)) (one_ok a0).1 (one_ok a0).2 (by kernel_rfl) (one_at _ _) (by kernel_rfl) (by kernel_rfl) (by kernel_rfl)) [2, 3, 4, 19] (L' := [(2, .pointer (some ad2)), (3, .pointer (some ad6)), (4, .pointer (some ad10)), (19, .agg (eSapi_Regs.enc a0).toArray)]) (by kernel_rfl) ?_
  clear hs; intro a hs
  obtain ⟨ad29, wd30, hx31, hw⟩ := x_alloc1 (P := Try.prog) (elem := 25) (ty := 0) (z := .agg (eSapi_Regs.enc (⟨(Vector.replicate 16 0), 0, false, false, false, false⟩ : Sapi_Regs)).toArray) hs hw eSapi_Regs (⟨(Vector.replicate 16 0), 0, false, false, false, false⟩ : Sapi_Regs) (by kernel_rfl) (by kernel_rfl)
  refine go_run hs (op := (Op.alloc 25)) (ty := 0) (dst := some 6) (g := none) (by kernel_rfl) (by kernel_rfl) (by kernel_rfl) hx31 [2, 3, 4, 6, 19] (L' := [(2, .pointer (some ad2)), (3, .pointer (some ad6)), (4, .pointer (some ad10)), (6, .pointer (some ad29)), (19, .agg (eSapi_Regs.enc a0).toArray)]) (by kernel_rfl) ?_
  clear hs; intro a hs
  obtain ⟨wd33, hx34, hw⟩ := x_put (P := Try.prog) (ty := 0) (t := 25) (x := (Operand.tmp 6)) (y := (Operand.tmp 19)) (off := 0) (p := ad29) (v := .agg (eSapi_Regs.enc a0).toArray) (vs := (eSapi_Regs.enc a0)) (i := 0) (e' := ((a0 : Sapi_Regs) : Sapi_Regs)) hs hw rfl (one_ok (⟨(Vector.replicate 16 0), 0, false, false, false, false⟩ : Sapi_Regs)).1 (one_ok (⟨(Vector.replicate 16 0), 0, false, false, false, false⟩ : Sapi_Regs)).2 (by kernel_rfl) (one_at _ _) (by kernel_rfl) rfl (by kernel_rfl) (Nat.le_of_ble_eq_true rfl) (eSapi_Regs.one _) (by kernel_rfl)
  refine go_unit hs (op := (Op.store 25 (Operand.tmp 6) (Operand.tmp 19))) (ty := 0) (dst := none) (g := none) (by kernel_rfl) (by kernel_rfl) (by kernel_rfl) hx34 [2, 3, 4, 6] (L' := [(2, .pointer (some ad2)), (3, .pointer (some ad6)), (4, .pointer (some ad10)), (6, .pointer (some ad29))]) (by kernel_rfl) ?_
  clear hs; intro a hs
  replace hw : St [] w0 wd33 [own 25 eSapi_Regs (some ad29) 1 [(a0 : Sapi_Regs)], own 25 eSapi_Regs (some ad10) 1 [(⟨(Vector.replicate 16 0), 0, false, false, false, false⟩ : Sapi_Regs)], own 27 eSapi_Instr (some ad6) 1 [a1], own 25 eSapi_Regs (some ad2) 1 [a0]] := hw
  refine go_end (by kernel_rfl) ?_
  refine hK28 _ _ ?_
  refine go_seq_k fun K35 hK35 => ?_
  refine go_region ?_
  refine go_pvs 0 1 [2, 3, 4, 6] hs (L' := [(2, .pointer (some ad2)), (3, .pointer (some ad6)), (4, .pointer (some ad10)), (6, .pointer (some ad29))]) (by kernel_rfl) ?_ rfl
  clear hs; intro a hs
  refine go_end (by kernel_rfl) ?_
  refine hK35 _ _ ?_
  refine go_seq_k fun K36 hK36 => ?_
  have hJ7 : ∀ (v282 : Sapi_Regs) (v283 : Int) (a : Act) (w : World), Slots a 69 [(3, .pointer (some ad6)), (4, .pointer (some ad10)), (6, .pointer (some ad29)), (7, .int .u32 v283)] → St [] w0 w [own 25 eSapi_Regs (some ad29) 1 [v282], own 25 eSapi_Regs (some ad10) 1 [(⟨(Vector.replicate 16 0), 0, false, false, false, false⟩ : Sapi_Regs)], own 27 eSapi_Instr (some ad6) 1 [a1], own 25 eSapi_Regs (some ad2) 1 [a0]] → alu_Do.j7 a1 v282 v283 = some r → K36 a w := by
   intro v282 v283 a w hs hw H
   unfold alu_Do.j7 at H
   refine hK36 _ _ ?_
   refine go_seq_k fun K284 hK284 => ?_
   refine go_region ?_
   refine go_pvs 0 1 [4, 6, 7, 61] hs (L' := [(4, .pointer (some ad10)), (6, .pointer (some ad29)), (7, .int .u32 v283), (61, .pointer (some ((ad6 : Addr).add 2)))]) (by kernel_rfl) ?_ rfl
   clear hs; intro a hs
   refine go_run hs (op := (Op.load 3 (Operand.tmp 61))) (ty := 3) (dst := some 62) (g := none) (by kernel_rfl) (by kernel_rfl) (by kernel_rfl) (x_ld (E := eSapi_Instr) (off := 2) (p := (ad6 : Addr).add 2) (v := .int .i64 a1.A) (Rd.of_own (hw.up 2)) (one_ok a1).1 (one_ok a1).2 (by kernel_rfl) (one_off _ _ _) (by kernel_rfl) (by kernel_rfl)) [4, 6, 7, 62] (L' := [(4, .pointer (some ad10)), (6, .pointer (some ad29)), (7, .int .u32 v283), (62, .int .i64 a1.A)]) (by kernel_rfl) ?_
   clear hs; intro a hs
   refine go_pvs 2 4 [4, 6, 7, 62, 63, 64] hs (L' := [(4, .pointer (some ad10)), (6, .pointer (some ad29)), (7, .int .u32 v283), (62, .int .i64 a1.A), (63, .int .u32 v283), (64, .pointer (some ((ad29 : Addr).add 0)))]) (by kernel_rfl) ?_ rfl
   clear hs; intro a hs
   obtain ⟨hp285, H⟩ := ite_only H
   refine go_run hs (op := (Op.indexAddr 23 (Operand.tmp 64) (Operand.tmp 62))) (ty := 0) (dst := some 65) (g := none) (by kernel_rfl) (by kernel_rfl) (by kernel_rfl) (x_vidx (e := 22) (p := (ad29 : Addr).add 0) (n := 16) (k := .i64) (i := a1.A) (sz := 1) (by kernel_rfl) (by kernel_rfl) (by kernel_rfl) (by kernel_rfl) hp285.1 hp285.2) [4, 6, 7, 63, 65] (L' := [(4, .pointer (some ad10)), (6, .pointer (some ad29)), (7, .int .u32 v283), (63, .int .u32 v283), (65, .pointer (some (((ad29 : Addr).add 0 : Addr).add ((a1.A : Int).toNat * 1))))]) (by kernel_rfl) ?_
   clear hs; intro a hs
   obtain ⟨wd286, hx287, hw⟩ := x_put (P := Try.prog) (ty := 0) (t := 22) (x := (Operand.tmp 65)) (y := (Operand.tmp 63)) (off := 0 + (a1.A : Int).toNat * 1) (p := ((ad29 : Addr).add 0 : Addr).add ((a1.A : Int).toNat * 1)) (v := .int .u32 v283) (vs := [.int .u32 v283]) (i := 0) (e' := (({ v282 with R := vset v282.R (a1.A : Int).toNat v283 } : Sapi_Regs) : Sapi_Regs)) hs hw rfl (one_ok (a0 : Sapi_Regs)).1 (one_ok (a0 : Sapi_Regs)).2 (by kernel_rfl) (by simp only [add_add', Int.toNat_zero, Nat.zero_mul, Nat.zero_add, Nat.mul_one] <;> rfl) (by kernel_rfl) rfl (by kernel_rfl) (by have := hp285; show 0 + _ * 1 + 1 ≤ 21; omega) (by simp [Value.oneCell']) (vput (cs := eSapi_Regs.enc v282) (cs' := eSapi_Regs.enc ({ v282 with R := vset v282.R (a1.A : Int).toNat v283 } : Sapi_Regs)) (pre := []) (post := [.int .u32 v282.H, .bool v282.N, .bool v282.Z, .bool v282.C, .bool v282.V]) (f := (fun j : Nat => .int .u32 (vx 0 v282.R j))) (f' := (fun j : Nat => .int .u32 (vx 0 (vset v282.R (a1.A : Int).toNat v283) j))) (n := 16) (o := 0) (i := (a1.A : Int).toNat) (v := .int .u32 v283) (by kernel_rfl) (by kernel_rfl) rfl (by have := hp285; omega) (vx_put (by have := hp285; omega)))
   refine go_unit hs (op := (Op.store 22 (Operand.tmp 65) (Operand.tmp 63))) (ty := 0) (dst := none) (g := none) (by kernel_rfl) (by kernel_rfl) (by kernel_rfl) hx287 [4, 6, 7] (L' := [(4, .pointer (some ad10)), (6, .pointer (some ad29)), (7, .int .u32 v283)]) (by kernel_rfl) ?_
   clear hs; intro a hs
   replace hw : St [] w0 wd286 [own 25 eSapi_Regs (some ad29) 1 [({ v282 with R := vset v282.R (a1.A : Int).toNat v283 } : Sapi_Regs)], own 25 eSapi_Regs (some ad10) 1 [(⟨(Vector.replicate 16 0), 0, false, false, false, false⟩ : Sapi_Regs)], own 27 eSapi_Instr (some ad6) 1 [a1], own 25 eSapi_Regs (some ad2) 1 [a0]] := hw
   refine go_end (by kernel_rfl) ?_
   refine hK284 _ _ ?_
   refine go_seq_k fun K288 hK288 => ?_
   refine go_region ?_
   refine go_run hs (op := (Op.load 25 (Operand.tmp 6))) (ty := 25) (dst := some 66) (g := none) (by kernel_rfl) (by kernel_rfl) (by kernel_rfl) (x_lds (E := eSapi_Regs) (off := 0) (p := ad29) (cs := (eSapi_Regs.enc ({ v282 with R := vset v282.R (a1.A : Int).toNat v283 } : Sapi_Regs))) (Rd.of_own (hw.up 0)) (one_ok ({ v282 with R := vset v282.R (a1.A : Int).toNat v283 } : Sapi_Regs)).1 (one_ok ({ v282 with R := vset v282.R (a1.A : Int).toNat v283 } : Sapi_Regs)).2 (by kernel_rfl) (one_at _ _) (by kernel_rfl) (by kernel_rfl) (by kernel_rfl)) [4, 7, 66] (L' := [(4, .pointer (some ad10)), (7, .int .u32 v283), (66, .agg (eSapi_Regs.enc ({ v282 with R := vset v282.R (a1.A : Int).toNat v283 } : Sapi_Regs)).toArray)]) (by kernel_rfl) ?_
   clear hs; intro a hs
   refine go_pvs 1 2 [4, 66, 67] hs (L' := [(4, .pointer (some ad10)), (66, .agg (eSapi_Regs.enc ({ v282 with R := vset v282.R (a1.A : Int).toNat v283 } : Sapi_Regs)).toArray), (67, .int .u32 v283)]) (by kernel_rfl) ?_ rfl
   clear hs; intro a hs
   obtain ⟨t290, hx291, H⟩ := bind_some H
   refine go_call hs (op := (Op.call { callee := (Callee.value (Operand.func 13)), args := #[(Operand.tmp 66), (Operand.tmp 67)], argTypes := #[25, 22] })) (ty := 25) (dst := some 68) (g := none) (by kernel_rfl) (by kernel_rfl) (by kernel_rfl) (f := 13) (args := #[.agg (eSapi_Regs.enc ({ v282 with R := vset v282.R (a1.A : Int).toNat v283 } : Sapi_Regs)).toArray, .int .u32 v283]) (by kernel_rfl) (alu_Show.calls ({ v282 with R := vset v282.R (a1.A : Int).toNat v283 } : Sapi_Regs) v283 t290 _ hx291) ?_
   rintro e wd292 ⟨rfl, hw293⟩
   refine ⟨_, rfl, ?_⟩
   replace hw := hw.call hw293
   intro a hs1
   replace hs : Slots a 69 [(4, .pointer (some ad10)), (68, .agg (eSapi_Regs.enc t290).toArray)] := hs1.keep [4, 68] (by kernel_rfl)
   clear hs1
   replace hw := hw.up 1
   obtain ⟨wd294, hx295, hw⟩ := x_put (P := Try.prog) (ty := 0) (t := 25) (x := (Operand.tmp 4)) (y := (Operand.tmp 68)) (off := 0) (p := ad10) (v := .agg (eSapi_Regs.enc t290).toArray) (vs := (eSapi_Regs.enc t290)) (i := 0) (e' := ((t290 : Sapi_Regs) : Sapi_Regs)) hs hw rfl (one_ok (⟨(Vector.replicate 16 0), 0, false, false, false, false⟩ : Sapi_Regs)).1 (one_ok (⟨(Vector.replicate 16 0), 0, false, false, false, false⟩ : Sapi_Regs)).2 (by kernel_rfl) (one_at _ _) (by kernel_rfl) rfl (by kernel_rfl) (Nat.le_of_ble_eq_true rfl) (eSapi_Regs.one _) (by kernel_rfl)
   refine go_unit hs (op := (Op.store 25 (Operand.tmp 4) (Operand.tmp 68))) (ty := 0) (dst := none) (g := none) (by kernel_rfl) (by kernel_rfl) (by kernel_rfl) hx295 [4] (L' := [(4, .pointer (some ad10))]) (by kernel_rfl) ?_
   clear hs; intro a hs
   replace hw : St [] w0 wd294 [own 25 eSapi_Regs (some ad10) 1 [(t290 : Sapi_Regs)], own 25 eSapi_Regs (some ad29) 1 [({ v282 with R := vset v282.R (a1.A : Int).toNat v283 } : Sapi_Regs)], own 27 eSapi_Instr (some ad6) 1 [a1], own 25 eSapi_Regs (some ad2) 1 [a0]] := hw
   refine go_pvs 4 5 [4, 5] hs (L' := [(4, .pointer (some ad10)), (5, .int .i64 0)]) (by kernel_rfl) ?_ rfl
   clear hs; intro a hs
   refine go_end (by kernel_rfl) ?_
   refine hK288 _ _ ?_
   refine wp_ret ?_
   obtain rfl := Option.some.inj H
   refine ret2g (L := [(4, .pointer (some ad10)), (5, .int .i64 0)]) (r1 := .cell 4 25) (v1 := .agg (eSapi_Regs.enc (t290 : Sapi_Regs)).toArray) (r2 := .tmp 5) (v2 := .int .i64 0) hs (by kernel_rfl) ⟨_, (show lk 4 [(4, .pointer (some ad10)), (5, .int .i64 0)] = some (.pointer (some ad10)) by kernel_rfl), lv_row (E := eSapi_Regs) (x := (t290 : Sapi_Regs)) (by kernel_rfl) (by kernel_rfl) (Rd.of_own (hw.up 0))⟩ (show lk 5 [(4, .pointer (some ad10)), (5, .int .i64 0)] = some (.int .i64 0) by kernel_rfl) ?_
   exact ⟨rfl, hw.only 0⟩
  refine go_seq_k fun K37 hK37 => ?_
  refine go_region ?_
  refine go_pvs 0 1 [2, 3, 4, 6, 20] hs (L' := [(2, .pointer (some ad2)), (3, .pointer (some ad6)), (4, .pointer (some ad10)), (6, .pointer (some ad29)), (20, .pointer (some ((ad6 : Addr).add 0)))]) (by kernel_rfl) ?_ rfl
  clear hs; intro a hs
  refine go_run hs (op := (Op.load 3 (Operand.tmp 20))) (ty := 3) (dst := some 21) (g := none) (by kernel_rfl) (by kernel_rfl) (by kernel_rfl) (x_ld (E := eSapi_Instr) (off := 0) (p := (ad6 : Addr).add 0) (v := .int .i64 a1.Kind) (Rd.of_own (hw.up 2)) (one_ok a1).1 (one_ok a1).2 (by kernel_rfl) (one_off _ _ _) (by kernel_rfl) (by kernel_rfl)) [2, 3, 4, 6, 21] (L' := [(2, .pointer (some ad2)), (3, .pointer (some ad6)), (4, .pointer (some ad10)), (6, .pointer (some ad29)), (21, .int .i64 a1.Kind)]) (by kernel_rfl) ?_
  clear hs; intro a hs
  refine go_end (by kernel_rfl) ?_
  refine hK37 _ _ ?_
  refine wp_block ?_
  refine go_seq_k fun K38 hK38 => ?_
  refine go_region ?_
  refine go_pvs 0 2 [2, 3, 4, 6, 21, 53] hs (L' := [(2, .pointer (some ad2)), (3, .pointer (some ad6)), (4, .pointer (some ad10)), (6, .pointer (some ad29)), (21, .int .i64 a1.Kind), (53, .bool (a1.Kind == 3))]) (by kernel_rfl) ?_ rfl
  clear hs; intro a hs
  refine go_end (by kernel_rfl) ?_
  refine hK38 _ _ ?_
  refine go_cond hs (a1.Kind == 3) (by kernel_rfl) (fun hc => ?_) (fun hc => ?_)
  ·replace H := ite_t H (beq_iff_eq.1 hc)
   have hb39 := hc
   rw [hb39] at hs
   refine go_region ?_
   refine go_pvs 0 1 [3, 4, 6, 55] hs (L' := [(3, .pointer (some ad6)), (4, .pointer (some ad10)), (6, .pointer (some ad29)), (55, .pointer (some ((ad2 : Addr).add 16)))]) (by kernel_rfl) ?_ rfl
   clear hs; intro a hs
   refine go_run hs (op := (Op.load 22 (Operand.tmp 55))) (ty := 22) (dst := some 56) (g := none) (by kernel_rfl) (by kernel_rfl) (by kernel_rfl) (x_ld (E := eSapi_Regs) (off := 16) (p := (ad2 : Addr).add 16) (v := .int .u32 a0.H) (Rd.of_own (hw.up 3)) (one_ok a0).1 (one_ok a0).2 (by kernel_rfl) (one_off _ _ _) (by kernel_rfl) (by kernel_rfl)) [3, 4, 6, 56] (L' := [(3, .pointer (some ad6)), (4, .pointer (some ad10)), (6, .pointer (some ad29)), (56, .int .u32 a0.H)]) (by kernel_rfl) ?_
   clear hs; intro a hs
   refine go_pvs 2 3 [3, 4, 6, 7] hs (L' := [(3, .pointer (some ad6)), (4, .pointer (some ad10)), (6, .pointer (some ad29)), (7, .int .u32 a0.H)]) (by kernel_rfl) ?_ rfl
   clear hs; intro a hs
   refine go_end (by kernel_rfl) ?_
   refine ib_norm ?_
   replace hw := hw.up 3
   replace hw := hw.up 3
   replace hw := hw.up 3
   replace hw := hw.up 3
   replace hw := hw.only 4
   exact hJ7 (a0 : Sapi_Regs) a0.H _ _ (hs.keep [3, 4, 6, 7] (by kernel_rfl)) hw H
  ·replace H := ite_f H (beq_eq_false_iff_ne.1 hc)
   have hb40 := hc
   rw [hb40] at hs
   refine go_seq_k fun K41 hK41 => ?_
   refine go_region ?_
   refine go_pvs 0 2 [2, 3, 4, 6, 57] hs (L' := [(2, .pointer (some ad2)), (3, .pointer (some ad6)), (4, .pointer (some ad10)), (6, .pointer (some ad29)), (57, .bool (a1.Kind == 4))]) (by kernel_rfl) ?_ rfl
   clear hs; intro a hs
   refine go_end (by kernel_rfl) ?_
   refine hK41 _ _ ?_
   refine go_cond hs (a1.Kind == 4) (by kernel_rfl) (fun hc => ?_) (fun hc => ?_)
   ·replace H := ite_t H (beq_iff_eq.1 hc)
    have hb42 := hc
    rw [hb42] at hs
    refine go_region ?_
    refine go_run hs (op := (Op.load 25 (Operand.tmp 2))) (ty := 25) (dst := some 59) (g := none) (by kernel_rfl) (by kernel_rfl) (by kernel_rfl) (x_lds (E := eSapi_Regs) (off := 0) (p := ad2) (cs := (eSapi_Regs.enc a0)) (Rd.of_own (hw.up 3)) (one_ok a0).1 (one_ok a0).2 (by kernel_rfl) (one_at _ _) (by kernel_rfl) (by kernel_rfl) (by kernel_rfl)) [3, 4, 6, 59] (L' := [(3, .pointer (some ad6)), (4, .pointer (some ad10)), (6, .pointer (some ad29)), (59, .agg (eSapi_Regs.enc a0).toArray)]) (by kernel_rfl) ?_
    clear hs; intro a hs
    obtain ⟨t44, hx45, H⟩ := bind_some H
    refine go_call hs (op := (Op.call { callee := (Callee.value (Operand.func 18)), args := #[(Operand.tmp 59)], argTypes := #[25] })) (ty := 22) (dst := some 60) (g := none) (by kernel_rfl) (by kernel_rfl) (by kernel_rfl) (f := 18) (args := #[.agg (eSapi_Regs.enc a0).toArray]) (by kernel_rfl) (alu_flags.calls a0 t44 _ hx45) ?_
    rintro e wd46 ⟨rfl, hw47⟩
    refine ⟨_, rfl, ?_⟩
    replace hw := hw.call hw47
    intro a hs1
    replace hs : Slots a 69 [(3, .pointer (some ad6)), (4, .pointer (some ad10)), (6, .pointer (some ad29)), (60, .int .u32 t44)] := hs1.keep [3, 4, 6, 60] (by kernel_rfl)
    clear hs1
    refine go_pvs 2 3 [3, 4, 6, 7] hs (L' := [(3, .pointer (some ad6)), (4, .pointer (some ad10)), (6, .pointer (some ad29)), (7, .int .u32 t44)]) (by kernel_rfl) ?_ rfl
    clear hs; intro a hs
    refine go_end (by kernel_rfl) ?_
    refine ib_norm ?_
    replace hw := hw.up 3
    replace hw := hw.up 3
    replace hw := hw.up 3
    replace hw := hw.up 3
    replace hw := hw.only 4
    exact hJ7 (a0 : Sapi_Regs) t44 _ _ (hs.keep [3, 4, 6, 7] (by kernel_rfl)) hw H
   ·replace H := ite_f H (beq_eq_false_iff_ne.1 hc)
    have hb48 := hc
    rw [hb48] at hs
    refine go_seq_k fun K49 hK49 => ?_
    refine go_region ?_
    refine go_pvs 0 1 [2, 3, 4, 6, 22] hs (L' := [(2, .pointer (some ad2)), (3, .pointer (some ad6)), (4, .pointer (some ad10)), (6, .pointer (some ad29)), (22, .pointer (some ((ad6 : Addr).add 4)))]) (by kernel_rfl) ?_ rfl
    clear hs; intro a hs
    refine go_run hs (op := (Op.load 3 (Operand.tmp 22))) (ty := 3) (dst := some 23) (g := none) (by kernel_rfl) (by kernel_rfl) (by kernel_rfl) (x_ld (E := eSapi_Instr) (off := 4) (p := (ad6 : Addr).add 4) (v := .int .i64 a1.C) (Rd.of_own (hw.up 2)) (one_ok a1).1 (one_ok a1).2 (by kernel_rfl) (one_off _ _ _) (by kernel_rfl) (by kernel_rfl)) [2, 3, 4, 6, 23] (L' := [(2, .pointer (some ad2)), (3, .pointer (some ad6)), (4, .pointer (some ad10)), (6, .pointer (some ad29)), (23, .int .i64 a1.C)]) (by kernel_rfl) ?_
    clear hs; intro a hs
    refine go_pvs 2 3 [2, 3, 4, 6, 23, 24] hs (L' := [(2, .pointer (some ad2)), (3, .pointer (some ad6)), (4, .pointer (some ad10)), (6, .pointer (some ad29)), (23, .int .i64 a1.C), (24, .pointer (some ((ad2 : Addr).add 0)))]) (by kernel_rfl) ?_ rfl
    clear hs; intro a hs
    obtain ⟨hp50, H⟩ := ite_only H
    refine go_run hs (op := (Op.indexAddr 23 (Operand.tmp 24) (Operand.tmp 23))) (ty := 0) (dst := some 25) (g := none) (by kernel_rfl) (by kernel_rfl) (by kernel_rfl) (x_vidx (e := 22) (p := (ad2 : Addr).add 0) (n := 16) (k := .i64) (i := a1.C) (sz := 1) (by kernel_rfl) (by kernel_rfl) (by kernel_rfl) (by kernel_rfl) hp50.1 hp50.2) [2, 3, 4, 6, 25] (L' := [(2, .pointer (some ad2)), (3, .pointer (some ad6)), (4, .pointer (some ad10)), (6, .pointer (some ad29)), (25, .pointer (some (((ad2 : Addr).add 0 : Addr).add ((a1.C : Int).toNat * 1))))]) (by kernel_rfl) ?_
    clear hs; intro a hs
    refine go_run hs (op := (Op.load 22 (Operand.tmp 25))) (ty := 22) (dst := some 26) (g := none) (by kernel_rfl) (by kernel_rfl) (by kernel_rfl) (x_ld (E := eSapi_Regs) (off := 0 + (a1.C : Int).toNat * 1) (p := ((ad2 : Addr).add 0 : Addr).add ((a1.C : Int).toNat * 1)) (v := .int .u32 (vx 0 a0.R (a1.C : Int).toNat)) (Rd.of_own (hw.up 3)) (one_ok a0).1 (one_ok a0).2 (by kernel_rfl) (by simp only [add_add', Int.toNat_zero, Nat.zero_mul, Nat.zero_add, Nat.mul_one] <;> rfl) (by kernel_rfl) (vget (cs := eSapi_Regs.enc a0) (pre := []) (post := [.int .u32 a0.H, .bool a0.N, .bool a0.Z, .bool a0.C, .bool a0.V]) (f := (fun j : Nat => .int .u32 (vx 0 a0.R j))) (n := 16) (o := 0) (i := (a1.C : Int).toNat) (by kernel_rfl) rfl (by have := hp50; omega))) [2, 3, 4, 6, 26] (L' := [(2, .pointer (some ad2)), (3, .pointer (some ad6)), (4, .pointer (some ad10)), (6, .pointer (some ad29)), (26, .int .u32 (vx 0 a0.R (a1.C : Int).toNat))]) (by kernel_rfl) ?_
    clear hs; intro a hs
    refine go_pvs 5 6 [2, 3, 4, 6, 8] hs (L' := [(2, .pointer (some ad2)), (3, .pointer (some ad6)), (4, .pointer (some ad10)), (6, .pointer (some ad29)), (8, .int .u32 (vx 0 a0.R (a1.C : Int).toNat))]) (by kernel_rfl) ?_ rfl
    clear hs; intro a hs
    refine go_end (by kernel_rfl) ?_
    refine hK49 _ _ ?_
    refine go_seq_k fun K51 hK51 => ?_
    have hJ3 : ∀ (v55 : Int) (a : Act) (w : World), Slots a 69 [(2, .pointer (some ad2)), (3, .pointer (some ad6)), (4, .pointer (some ad10)), (6, .pointer (some ad29)), (8, .int .u32 v55)] → St [] w0 w [own 25 eSapi_Regs (some ad29) 1 [(a0 : Sapi_Regs)], own 25 eSapi_Regs (some ad10) 1 [(⟨(Vector.replicate 16 0), 0, false, false, false, false⟩ : Sapi_Regs)], own 27 eSapi_Instr (some ad6) 1 [a1], own 25 eSapi_Regs (some ad2) 1 [a0]] → alu_Do.j3 a1 a0 v55 = some r → K51 a w := by
     intro v55 a w hs hw H
     unfold alu_Do.j3 at H
     refine hK51 _ _ ?_
     refine go_seq_k fun K56 hK56 => ?_
     refine go_region ?_
     refine go_pvs 0 1 [2, 3, 4, 6, 8] hs (L' := [(2, .pointer (some ad2)), (3, .pointer (some ad6)), (4, .pointer (some ad10)), (6, .pointer (some ad29)), (8, .int .u32 v55)]) (by kernel_rfl) ?_ rfl
     clear hs; intro a hs
     refine go_end (by kernel_rfl) ?_
     refine hK56 _ _ ?_
     refine go_seq_k fun K57 hK57 => ?_
     refine s_region [(1, true), (2, false), (5, true), (6, false), (7, true), (8, true), (9, false), (10, true), (11, true), (12, false)] [0, 3, 4] [13] [14, 15, 16, 17, 18] (by kernel_rfl) (by kernel_rfl) (fun c a d v w h => by cases d <;> exact h) ?_
     refine t_pvs [1] [(2, false), (5, true), (6, false), (7, true), (8, true), (9, false), (10, true), (11, true), (12, false)] [2, 3, 4, 6, 8, 35] hs (L' := [(2, .pointer (some ad2)), (3, .pointer (some ad6)), (4, .pointer (some ad10)), (6, .pointer (some ad29)), (8, .int .u32 v55), (35, .pointer (some ((ad6 : Addr).add 1)))]) (by kernel_rfl) ?_ (by kernel_rfl)
     clear hs; intro a hs
     refine t_rd hs (op := (Op.load 3 (Operand.tmp 35))) (ty := 3) (dst := some 36) (g := none) (by kernel_rfl) (by kernel_rfl) (by kernel_rfl) (fun wx hbx => (x_ld (E := eSapi_Instr) (off := 1) (p := (ad6 : Addr).add 1) (v := .int .i64 a1.Op) ((Rd.of_own (hw.up 2)).below hbx) (one_ok a1).1 (one_ok a1).2 (by kernel_rfl) (one_off _ _ _) (by kernel_rfl) (by kernel_rfl))) [2, 3, 4, 6, 8, 36] (L' := [(2, .pointer (some ad2)), (3, .pointer (some ad6)), (4, .pointer (some ad10)), (6, .pointer (some ad29)), (8, .int .u32 v55), (36, .int .i64 a1.Op)]) (by kernel_rfl) ?_
     clear hs; intro a hs
     refine t_pvs [5] [(6, false), (7, true), (8, true), (9, false), (10, true), (11, true), (12, false)] [2, 3, 4, 6, 8, 36, 39] hs (L' := [(2, .pointer (some ad2)), (3, .pointer (some ad6)), (4, .pointer (some ad10)), (6, .pointer (some ad29)), (8, .int .u32 v55), (36, .int .i64 a1.Op), (39, .pointer (some ((ad6 : Addr).add 3)))]) (by kernel_rfl) ?_ (by kernel_rfl)
     clear hs; intro a hs
     refine t_rd hs (op := (Op.load 3 (Operand.tmp 39))) (ty := 3) (dst := some 40) (g := none) (by kernel_rfl) (by kernel_rfl) (by kernel_rfl) (fun wx hbx => (x_ld (E := eSapi_Instr) (off := 3) (p := (ad6 : Addr).add 3) (v := .int .i64 a1.B) ((Rd.of_own (hw.up 2)).below hbx) (one_ok a1).1 (one_ok a1).2 (by kernel_rfl) (one_off _ _ _) (by kernel_rfl) (by kernel_rfl))) [2, 3, 4, 6, 8, 36, 40] (L' := [(2, .pointer (some ad2)), (3, .pointer (some ad6)), (4, .pointer (some ad10)), (6, .pointer (some ad29)), (8, .int .u32 v55), (36, .int .i64 a1.Op), (40, .int .i64 a1.B)]) (by kernel_rfl) ?_
     clear hs; intro a hs
     refine t_pvs [7] [(8, true), (9, false), (10, true), (11, true), (12, false)] [2, 3, 4, 6, 8, 36, 40, 41] hs (L' := [(2, .pointer (some ad2)), (3, .pointer (some ad6)), (4, .pointer (some ad10)), (6, .pointer (some ad29)), (8, .int .u32 v55), (36, .int .i64 a1.Op), (40, .int .i64 a1.B), (41, .pointer (some ((ad2 : Addr).add 0)))]) (by kernel_rfl) ?_ (by kernel_rfl)
     clear hs; intro a hs
     obtain ⟨hp58, H⟩ := ite_only H
     refine t_run hs (op := (Op.indexAddr 23 (Operand.tmp 41) (Operand.tmp 40))) (ty := 0) (dst := some 42) (g := none) (by kernel_rfl) (by kernel_rfl) (by kernel_rfl) (fun wx => (x_vidx (e := 22) (p := (ad2 : Addr).add 0) (n := 16) (k := .i64) (i := a1.B) (sz := 1) (by kernel_rfl) (by kernel_rfl) (by kernel_rfl) (by kernel_rfl) hp58.1 hp58.2)) [2, 3, 4, 6, 8, 36, 42] (L' := [(2, .pointer (some ad2)), (3, .pointer (some ad6)), (4, .pointer (some ad10)), (6, .pointer (some ad29)), (8, .int .u32 v55), (36, .int .i64 a1.Op), (42, .pointer (some (((ad2 : Addr).add 0 : Addr).add ((a1.B : Int).toNat * 1))))]) (by kernel_rfl) ?_
     clear hs; intro a hs
     refine t_rd hs (op := (Op.load 22 (Operand.tmp 42))) (ty := 22) (dst := some 43) (g := none) (by kernel_rfl) (by kernel_rfl) (by kernel_rfl) (fun wx hbx => (x_ld (E := eSapi_Regs) (off := 0 + (a1.B : Int).toNat * 1) (p := ((ad2 : Addr).add 0 : Addr).add ((a1.B : Int).toNat * 1)) (v := .int .u32 (vx 0 a0.R (a1.B : Int).toNat)) ((Rd.of_own (hw.up 3)).below hbx) (one_ok a0).1 (one_ok a0).2 (by kernel_rfl) (by simp only [add_add', Int.toNat_zero, Nat.zero_mul, Nat.zero_add, Nat.mul_one] <;> rfl) (by kernel_rfl) (vget (cs := eSapi_Regs.enc a0) (pre := []) (post := [.int .u32 a0.H, .bool a0.N, .bool a0.Z, .bool a0.C, .bool a0.V]) (f := (fun j : Nat => .int .u32 (vx 0 a0.R j))) (n := 16) (o := 0) (i := (a1.B : Int).toNat) (by kernel_rfl) rfl (by have := hp58; omega)))) [2, 3, 4, 6, 8, 36, 43] (L' := [(2, .pointer (some ad2)), (3, .pointer (some ad6)), (4, .pointer (some ad10)), (6, .pointer (some ad29)), (8, .int .u32 v55), (36, .int .i64 a1.Op), (43, .int .u32 (vx 0 a0.R (a1.B : Int).toNat))]) (by kernel_rfl) ?_
     clear hs; intro a hs
     refine t_pvs [10, 11] [(12, false)] [2, 3, 4, 6, 36, 43, 44, 45] hs (L' := [(2, .pointer (some ad2)), (3, .pointer (some ad6)), (4, .pointer (some ad10)), (6, .pointer (some ad29)), (36, .int .i64 a1.Op), (43, .int .u32 (vx 0 a0.R (a1.B : Int).toNat)), (44, .int .u32 v55), (45, .pointer (some ((ad6 : Addr).add 6)))]) (by kernel_rfl) ?_ (by kernel_rfl)
     clear hs; intro a hs
     refine t_rd hs (op := (Op.load 4 (Operand.tmp 45))) (ty := 4) (dst := some 46) (g := none) (by kernel_rfl) (by kernel_rfl) (by kernel_rfl) (fun wx hbx => (x_ld (E := eSapi_Instr) (off := 6) (p := (ad6 : Addr).add 6) (v := .bool a1.U) ((Rd.of_own (hw.up 2)).below hbx) (one_ok a1).1 (one_ok a1).2 (by kernel_rfl) (one_off _ _ _) (by kernel_rfl) (by kernel_rfl))) [2, 3, 4, 6, 36, 43, 44, 46] (L' := [(2, .pointer (some ad2)), (3, .pointer (some ad6)), (4, .pointer (some ad10)), (6, .pointer (some ad29)), (36, .int .i64 a1.Op), (43, .int .u32 (vx 0 a0.R (a1.B : Int).toNat)), (44, .int .u32 v55), (46, .bool a1.U)]) (by kernel_rfl) ?_
     clear hs; intro a hs
     refine t_end ?_
     intro wq hbq
     replace hw := hw.behind hbq
     refine s_call hs (op := (Op.call { callee := (Callee.value (Operand.func 19)), args := #[], argTypes := #[] })) (ty := 50) (dst := some 34) (g := none) (by kernel_rfl) (by kernel_rfl) (by kernel_rfl) (f := 19) (args := #[]) (by kernel_rfl) (alu_units.calls () _ rfl) ?_
     rintro e wd101 ⟨g59, g60, g61, g62, g63, g64, g65, g66, g67, g68, g69, g70, ad71, g72, g73, g74, ad75, g76, g77, g78, ad79, rfl, hw102⟩
     refine ⟨_, rfl, below_st hbq hw102, ?_⟩
     replace hbq := below_st hbq hw102
     replace hw := hw.call hw102
     replace hw : St [] w0 wd101 [box g59 50 [.func (.func 35) #[] #[], .func (.func 58) #[] #[.pointer (some (⟨g78, 0, none⟩ : Addr))], .func (.func 58) #[] #[.pointer (some (⟨g74, 0, none⟩ : Addr))], .func (.func 58) #[] #[.pointer (some (⟨g70, 0, none⟩ : Addr))], .func (.func 58) #[] #[.pointer (some (⟨g67, 0, none⟩ : Addr))], .func (.func 58) #[] #[.pointer (some (⟨g65, 0, none⟩ : Addr))], .func (.func 58) #[] #[.pointer (some (⟨g63, 0, none⟩ : Addr))], .func (.func 58) #[] #[.pointer (some (⟨g61, 0, none⟩ : Addr))], .func (.func 40) #[] #[], .func (.func 42) #[] #[], .func (.func 44) #[] #[], .func (.func 46) #[] #[]], box g60 49 [.func (.func 58) #[] #[.pointer (some (⟨g61, 0, none⟩ : Addr))]], box g61 67 [.func (.func 39) #[] #[]], box g62 49 [.func (.func 58) #[] #[.pointer (some (⟨g63, 0, none⟩ : Addr))]], box g63 67 [.func (.func 38) #[] #[]], box g64 49 [.func (.func 58) #[] #[.pointer (some (⟨g65, 0, none⟩ : Addr))]], box g65 67 [.func (.func 37) #[] #[]], box g66 49 [.func (.func 58) #[] #[.pointer (some (⟨g67, 0, none⟩ : Addr))]], box g67 67 [.func (.func 36) #[] #[]], box g68 49 [.func (.func 58) #[] #[.pointer (some (⟨g70, 0, none⟩ : Addr))]], box g69 49 [.func (.func 58) #[] #[.pointer (some (⟨g70, 0, none⟩ : Addr))]], box g70 67 [.func (.func 33) #[] #[.pointer (some ad71)]], own 3 (eI .i64) (some ad71) 1 [3], box g72 49 [.func (.func 58) #[] #[.pointer (some (⟨g74, 0, none⟩ : Addr))]], box g73 49 [.func (.func 58) #[] #[.pointer (some (⟨g74, 0, none⟩ : Addr))]], box g74 67 [.func (.func 33) #[] #[.pointer (some ad75)]], own 3 (eI .i64) (some ad75) 1 [2], box g76 49 [.func (.func 58) #[] #[.pointer (some (⟨g78, 0, none⟩ : Addr))]], box g77 49 [.func (.func 58) #[] #[.pointer (some (⟨g78, 0, none⟩ : Addr))]], box g78 67 [.func (.func 33) #[] #[.pointer (some ad79)]], own 3 (eI .i64) (some ad79) 1 [1], own 25 eSapi_Regs (some ad29) 1 [(a0 : Sapi_Regs)], own 25 eSapi_Regs (some ad10) 1 [(⟨(Vector.replicate 16 0), 0, false, false, false, false⟩ : Sapi_Regs)], own 27 eSapi_Instr (some ad6) 1 [a1], own 25 eSapi_Regs (some ad2) 1 [a0]] := hw
     intro a hs1
     replace hs : Slots a 69 [(2, .pointer (some ad2)), (3, .pointer (some ad6)), (4, .pointer (some ad10)), (6, .pointer (some ad29)), (34, .agg #[.func (.func 35) #[] #[], .func (.func 58) #[] #[.pointer (some (⟨g78, 0, none⟩ : Addr))], .func (.func 58) #[] #[.pointer (some (⟨g74, 0, none⟩ : Addr))], .func (.func 58) #[] #[.pointer (some (⟨g70, 0, none⟩ : Addr))], .func (.func 58) #[] #[.pointer (some (⟨g67, 0, none⟩ : Addr))], .func (.func 58) #[] #[.pointer (some (⟨g65, 0, none⟩ : Addr))], .func (.func 58) #[] #[.pointer (some (⟨g63, 0, none⟩ : Addr))], .func (.func 58) #[] #[.pointer (some (⟨g61, 0, none⟩ : Addr))], .func (.func 40) #[] #[], .func (.func 42) #[] #[], .func (.func 44) #[] #[], .func (.func 46) #[] #[]]), (36, .int .i64 a1.Op), (43, .int .u32 (vx 0 a0.R (a1.B : Int).toNat)), (44, .int .u32 v55), (46, .bool a1.U)] := hs1.keep [2, 3, 4, 6, 34, 36, 43, 44, 46] (by kernel_rfl)
     clear hs1
     obtain ⟨hp103, H⟩ := ite_only H
     by_cases hk104 : a1.Op = 0
     ·replace H := ite_t H hk104
      replace hs := (congrArg (fun z => Slots a 69 [(2, .pointer (some ad2)), (3, .pointer (some ad6)), (4, .pointer (some ad10)), (6, .pointer (some ad29)), (34, .agg #[.func (.func 35) #[] #[], .func (.func 58) #[] #[.pointer (some (⟨g78, 0, none⟩ : Addr))], .func (.func 58) #[] #[.pointer (some (⟨g74, 0, none⟩ : Addr))], .func (.func 58) #[] #[.pointer (some (⟨g70, 0, none⟩ : Addr))], .func (.func 58) #[] #[.pointer (some (⟨g67, 0, none⟩ : Addr))], .func (.func 58) #[] #[.pointer (some (⟨g65, 0, none⟩ : Addr))], .func (.func 58) #[] #[.pointer (some (⟨g63, 0, none⟩ : Addr))], .func (.func 58) #[] #[.pointer (some (⟨g61, 0, none⟩ : Addr))], .func (.func 40) #[] #[], .func (.func 42) #[] #[], .func (.func 44) #[] #[], .func (.func 46) #[] #[]]), (36, .int .i64 z), (43, .int .u32 (vx 0 a0.R (a1.B : Int).toNat)), (44, .int .u32 v55), (46, .bool a1.U)]) hk104).mp hs
      replace hs : Slots a 69 [(2, .pointer (some ad2)), (3, .pointer (some ad6)), (4, .pointer (some ad10)), (6, .pointer (some ad29)), (34, .agg #[.func (.func 35) #[] #[], .func (.func 58) #[] #[.pointer (some (⟨g78, 0, none⟩ : Addr))], .func (.func 58) #[] #[.pointer (some (⟨g74, 0, none⟩ : Addr))], .func (.func 58) #[] #[.pointer (some (⟨g70, 0, none⟩ : Addr))], .func (.func 58) #[] #[.pointer (some (⟨g67, 0, none⟩ : Addr))], .func (.func 58) #[] #[.pointer (some (⟨g65, 0, none⟩ : Addr))], .func (.func 58) #[] #[.pointer (some (⟨g63, 0, none⟩ : Addr))], .func (.func 58) #[] #[.pointer (some (⟨g61, 0, none⟩ : Addr))], .func (.func 40) #[] #[], .func (.func 42) #[] #[], .func (.func 44) #[] #[], .func (.func 46) #[] #[]]), (36, .int .i64 0), (43, .int .u32 (vx 0 a0.R (a1.B : Int).toNat)), (44, .int .u32 v55), (46, .bool a1.U)] := hs
      refine s_pvs [3, 4] [] [2, 3, 4, 6, 38, 43, 44, 46] hbq hs (L' := [(2, .pointer (some ad2)), (3, .pointer (some ad6)), (4, .pointer (some ad10)), (6, .pointer (some ad29)), (38, .func (.func 35) #[] #[]), (43, .int .u32 (vx 0 a0.R (a1.B : Int).toNat)), (44, .int .u32 v55), (46, .bool a1.U)]) (by kernel_rfl) ?_ (by kernel_rfl)
      clear hs; intro a hs
      refine s_end ?_
      refine p_inline_k hs (op := (Op.call { callee := (Callee.value (Operand.tmp 38)), args := #[(Operand.tmp 6), (Operand.tmp 43), (Operand.tmp 44), (Operand.tmp 46)], argTypes := #[52, 22, 22, 4] })) (ty := 46) (dst := some 47) (g := none) (by kernel_rfl) (by kernel_rfl) (by kernel_rfl) (f := 35) (args := #[.pointer (some ad29), .int .u32 (vx 0 a0.R (a1.B : Int).toNat), .int .u32 v55, .bool a1.U]) (by kernel_rfl) (fun KR105 hKR105 => ?_)
      refine go_fn Try.func35 rfl 14 Try.ntmps35 [(0, .pointer (some ad29)), (1, .int .u32 (vx 0 a0.R (a1.B : Int).toNat)), (2, .int .u32 v55), (3, .bool a1.U)] (by kernel_rfl) rfl ?_
      clear hs; intro a hs
      refine go_seq_k fun K106 hK106 => ?_
      refine go_region ?_
      refine go_pvs 0 2 [2, 3] hs (L' := [(2, .int .u32 v55), (3, .bool a1.U)]) (by kernel_rfl) ?_ rfl
      clear hs; intro a hs
      refine go_end (by kernel_rfl) ?_
      refine hK106 _ _ ?_
      refine go_seq_k fun K107 hK107 => ?_
      have hJ4 : ∀ (v111 : Int) (a : Act) (w : World), Slots a 14 [(2, .int .u32 v111)] → St [] w0 w [box g59 50 [.func (.func 35) #[] #[], .func (.func 58) #[] #[.pointer (some (⟨g78, 0, none⟩ : Addr))], .func (.func 58) #[] #[.pointer (some (⟨g74, 0, none⟩ : Addr))], .func (.func 58) #[] #[.pointer (some (⟨g70, 0, none⟩ : Addr))], .func (.func 58) #[] #[.pointer (some (⟨g67, 0, none⟩ : Addr))], .func (.func 58) #[] #[.pointer (some (⟨g65, 0, none⟩ : Addr))], .func (.func 58) #[] #[.pointer (some (⟨g63, 0, none⟩ : Addr))], .func (.func 58) #[] #[.pointer (some (⟨g61, 0, none⟩ : Addr))], .func (.func 40) #[] #[], .func (.func 42) #[] #[], .func (.func 44) #[] #[], .func (.func 46) #[] #[]], box g60 49 [.func (.func 58) #[] #[.pointer (some (⟨g61, 0, none⟩ : Addr))]], box g61 67 [.func (.func 39) #[] #[]], box g62 49 [.func (.func 58) #[] #[.pointer (some (⟨g63, 0, none⟩ : Addr))]], box g63 67 [.func (.func 38) #[] #[]], box g64 49 [.func (.func 58) #[] #[.pointer (some (⟨g65, 0, none⟩ : Addr))]], box g65 67 [.func (.func 37) #[] #[]], box g66 49 [.func (.func 58) #[] #[.pointer (some (⟨g67, 0, none⟩ : Addr))]], box g67 67 [.func (.func 36) #[] #[]], box g68 49 [.func (.func 58) #[] #[.pointer (some (⟨g70, 0, none⟩ : Addr))]], box g69 49 [.func (.func 58) #[] #[.pointer (some (⟨g70, 0, none⟩ : Addr))]], box g70 67 [.func (.func 33) #[] #[.pointer (some ad71)]], own 3 (eI .i64) (some ad71) 1 [3], box g72 49 [.func (.func 58) #[] #[.pointer (some (⟨g74, 0, none⟩ : Addr))]], box g73 49 [.func (.func 58) #[] #[.pointer (some (⟨g74, 0, none⟩ : Addr))]], box g74 67 [.func (.func 33) #[] #[.pointer (some ad75)]], own 3 (eI .i64) (some ad75) 1 [2], box g76 49 [.func (.func 58) #[] #[.pointer (some (⟨g78, 0, none⟩ : Addr))]], box g77 49 [.func (.func 58) #[] #[.pointer (some (⟨g78, 0, none⟩ : Addr))]], box g78 67 [.func (.func 33) #[] #[.pointer (some ad79)]], own 3 (eI .i64) (some ad79) 1 [1], own 25 eSapi_Regs (some ad29) 1 [(a0 : Sapi_Regs)], own 25 eSapi_Regs (some ad10) 1 [(⟨(Vector.replicate 16 0), 0, false, false, false, false⟩ : Sapi_Regs)], own 27 eSapi_Instr (some ad6) 1 [a1], own 25 eSapi_Regs (some ad2) 1 [a0]] → alu_Do.j4 a1 a0 v111 = some r → K107 a w := by
       intro v111 a w hs hw H
       unfold alu_Do.j4 at H
       refine hK107 _ _ ?_
       refine go_seq_k fun K112 hK112 => ?_
       refine go_region ?_
       refine go_pvs 0 3 [8, 9] hs (L' := [(8, .int .u32 v111), (9, .bool true)]) (by kernel_rfl) ?_ rfl
       clear hs; intro a hs
       refine go_end (by kernel_rfl) ?_
       refine hK112 _ _ ?_
       refine wp_ret ?_
       refine ret2 (t1 := 8) (v1 := .int .u32 v111) (t2 := 9) (v2 := .bool true) hs (by kernel_rfl) (by kernel_rfl) (by kernel_rfl) ?_
       refine ⟨_, rfl, ?_⟩
       refine hKR105 _ _ ?_
       intro a hs1
       have hs : Slots a _ [(2, .pointer (some ad2)), (3, .pointer (some ad6)), (4, .pointer (some ad10)), (6, .pointer (some ad29)), (47, .tuple #[.int .u32 v111, .bool true])] := hs1.keep [2, 3, 4, 6, 47] (by kernel_rfl)
       clear hs1
       refine p_last ?_
       refine e_pvs [14, 15, 16, 17, 18] [] [2, 3, 4, 6, 7, 9] hs (L' := [(2, .pointer (some ad2)), (3, .pointer (some ad6)), (4, .pointer (some ad10)), (6, .pointer (some ad29)), (7, .int .u32 v111), (9, .bool true)]) (by kernel_rfl) ?_ (by kernel_rfl)
       clear hs; intro a hs
       refine e_end ?_
       refine hK57 _ _ ?_
       refine go_seq_k fun K113 hK113 => ?_
       refine go_region ?_
       refine go_pvs 0 2 [2, 3, 4, 6, 7, 51] hs (L' := [(2, .pointer (some ad2)), (3, .pointer (some ad6)), (4, .pointer (some ad10)), (6, .pointer (some ad29)), (7, .int .u32 v111), (51, .bool false)]) (by kernel_rfl) ?_ rfl
       clear hs; intro a hs
       refine go_end (by kernel_rfl) ?_
       refine hK113 _ _ ?_
       refine go_cond hs false (by kernel_rfl) (fun hc => ?_) (fun hc => ?_)
       ·cases hc
       ·skip
        refine wp_skip ?_
        refine ib_norm ?_
        replace hw := hw.up 24
        replace hw := hw.up 24
        replace hw := hw.up 24
        replace hw := hw.up 24
        replace hw := hw.only 4
        exact hJ7 (a0 : Sapi_Regs) v111 _ _ (hs.keep [3, 4, 6, 7] (by kernel_rfl)) hw H
      refine go_seq_k fun K108 hK108 => ?_
      refine go_region ?_
      refine go_pvs 0 1 [2, 10] hs (L' := [(2, .int .u32 v55), (10, .bool a1.U)]) (by kernel_rfl) ?_ rfl
      clear hs; intro a hs
      refine go_end (by kernel_rfl) ?_
      refine hK108 _ _ ?_
      refine go_cond hs a1.U (by kernel_rfl) (fun hc => ?_) (fun hc => ?_)
      ·replace H := ite_t H hc
       have hb109 := hc
       rw [hb109] at hs
       refine go_region ?_
       refine go_pvs 0 3 [2] hs (L' := [(2, .int .u32 (wu32 (v55 * 2 ^ 16)))]) (by kernel_rfl) ?_ rfl
       clear hs; intro a hs
       refine go_end (by kernel_rfl) ?_
       replace hw := hw.up 24
       replace hw := hw.up 24
       replace hw := hw.up 24
       replace hw := hw.up 24
       replace hw := hw.up 24
       replace hw := hw.up 24
       replace hw := hw.up 24
       replace hw := hw.up 24
       replace hw := hw.up 24
       replace hw := hw.up 24
       replace hw := hw.up 24
       replace hw := hw.up 24
       replace hw := hw.up 24
       replace hw := hw.up 24
       replace hw := hw.up 24
       replace hw := hw.up 24
       replace hw := hw.up 24
       replace hw := hw.up 24
       replace hw := hw.up 24
       replace hw := hw.up 24
       replace hw := hw.up 24
       replace hw := hw.up 24
       replace hw := hw.up 24
       replace hw := hw.up 24
       replace hw := hw.up 24
       replace hw := hw.only 25
       exact hJ4 (wu32 (v55 * 2 ^ 16)) _ _ (hs.keep [2] (by kernel_rfl)) hw H
      ·replace H := ite_f H (ff hc)
       have hb110 := hc
       rw [hb110] at hs
       refine wp_skip ?_
       replace hw := hw.up 24
       replace hw := hw.up 24
       replace hw := hw.up 24
       replace hw := hw.up 24
       replace hw := hw.up 24
       replace hw := hw.up 24
       replace hw := hw.up 24
       replace hw := hw.up 24
       replace hw := hw.up 24
       replace hw := hw.up 24
       replace hw := hw.up 24
       replace hw := hw.up 24
       replace hw := hw.up 24
       replace hw := hw.up 24
       replace hw := hw.up 24
       replace hw := hw.up 24
       replace hw := hw.up 24
       replace hw := hw.up 24
       replace hw := hw.up 24
       replace hw := hw.up 24
       replace hw := hw.up 24
       replace hw := hw.up 24
       replace hw := hw.up 24
       replace hw := hw.up 24
       replace hw := hw.up 24
       replace hw := hw.only 25
       exact hJ4 v55 _ _ (hs.keep [2] (by kernel_rfl)) hw H
     ·replace H := ite_f H hk104
      by_cases hk114 : a1.Op = 1
      ·replace H := ite_t H hk114
       replace hs := (congrArg (fun z => Slots a 69 [(2, .pointer (some ad2)), (3, .pointer (some ad6)), (4, .pointer (some ad10)), (6, .pointer (some ad29)), (34, .agg #[.func (.func 35) #[] #[], .func (.func 58) #[] #[.pointer (some (⟨g78, 0, none⟩ : Addr))], .func (.func 58) #[] #[.pointer (some (⟨g74, 0, none⟩ : Addr))], .func (.func 58) #[] #[.pointer (some (⟨g70, 0, none⟩ : Addr))], .func (.func 58) #[] #[.pointer (some (⟨g67, 0, none⟩ : Addr))], .func (.func 58) #[] #[.pointer (some (⟨g65, 0, none⟩ : Addr))], .func (.func 58) #[] #[.pointer (some (⟨g63, 0, none⟩ : Addr))], .func (.func 58) #[] #[.pointer (some (⟨g61, 0, none⟩ : Addr))], .func (.func 40) #[] #[], .func (.func 42) #[] #[], .func (.func 44) #[] #[], .func (.func 46) #[] #[]]), (36, .int .i64 z), (43, .int .u32 (vx 0 a0.R (a1.B : Int).toNat)), (44, .int .u32 v55), (46, .bool a1.U)]) hk114).mp hs
       replace hs : Slots a 69 [(2, .pointer (some ad2)), (3, .pointer (some ad6)), (4, .pointer (some ad10)), (6, .pointer (some ad29)), (34, .agg #[.func (.func 35) #[] #[], .func (.func 58) #[] #[.pointer (some (⟨g78, 0, none⟩ : Addr))], .func (.func 58) #[] #[.pointer (some (⟨g74, 0, none⟩ : Addr))], .func (.func 58) #[] #[.pointer (some (⟨g70, 0, none⟩ : Addr))], .func (.func 58) #[] #[.pointer (some (⟨g67, 0, none⟩ : Addr))], .func (.func 58) #[] #[.pointer (some (⟨g65, 0, none⟩ : Addr))], .func (.func 58) #[] #[.pointer (some (⟨g63, 0, none⟩ : Addr))], .func (.func 58) #[] #[.pointer (some (⟨g61, 0, none⟩ : Addr))], .func (.func 40) #[] #[], .func (.func 42) #[] #[], .func (.func 44) #[] #[], .func (.func 46) #[] #[]]), (36, .int .i64 1), (43, .int .u32 (vx 0 a0.R (a1.B : Int).toNat)), (44, .int .u32 v55), (46, .bool a1.U)] := hs
       refine s_pvs [3, 4] [] [2, 3, 4, 6, 38, 43, 44, 46] hbq hs (L' := [(2, .pointer (some ad2)), (3, .pointer (some ad6)), (4, .pointer (some ad10)), (6, .pointer (some ad29)), (38, .func (.func 58) #[] #[.pointer (some (⟨g78, 0, none⟩ : Addr))]), (43, .int .u32 (vx 0 a0.R (a1.B : Int).toNat)), (44, .int .u32 v55), (46, .bool a1.U)]) (by kernel_rfl) ?_ (by kernel_rfl)
       clear hs; intro a hs
       refine s_end ?_
       refine p_inline_k hs (op := (Op.call { callee := (Callee.value (Operand.tmp 38)), args := #[(Operand.tmp 6), (Operand.tmp 43), (Operand.tmp 44), (Operand.tmp 46)], argTypes := #[52, 22, 22, 4] })) (ty := 46) (dst := some 47) (g := none) (by kernel_rfl) (by kernel_rfl) (by kernel_rfl) (f := 58) (args := #[.pointer (some ad29), .int .u32 (vx 0 a0.R (a1.B : Int).toNat), .int .u32 v55, .bool a1.U, .pointer (some (⟨g78, 0, none⟩ : Addr))]) (by kernel_rfl) (fun KR115 hKR115 => ?_)
       refine go_fn Try.func58 rfl 15 Try.ntmps58 [(0, .pointer (some ad29)), (1, .int .u32 (vx 0 a0.R (a1.B : Int).toNat)), (2, .int .u32 v55), (3, .bool a1.U), (4, .pointer (some (⟨g78, 0, none⟩ : Addr)))] (by kernel_rfl) rfl ?_
       clear hs; intro a hs
       refine go_seq_k fun K116 hK116 => ?_
       refine go_region ?_
       refine go_pvs 0 2 [1, 2, 4] hs (L' := [(1, .int .u32 (vx 0 a0.R (a1.B : Int).toNat)), (2, .int .u32 v55), (4, .pointer (some (⟨g78, 0, none⟩ : Addr)))]) (by kernel_rfl) ?_ rfl
       clear hs; intro a hs
       refine go_end (by kernel_rfl) ?_
       refine hK116 _ _ ?_
       refine go_seq_k fun K117 hK117 => ?_
       refine go_region ?_
       refine go_run hs (op := (Op.load 67 (Operand.tmp 4))) (ty := 67) (dst := some 11) (g := none) (by kernel_rfl) (by kernel_rfl) (by kernel_rfl) (x_bld (g := g78) (o := 0) (p := (⟨g78, 0, none⟩ : Addr)) (v := .func (.func 33) #[] #[.pointer (some ad79)]) (hw.up 19) (by kernel_rfl) rfl (by kernel_rfl) (by kernel_rfl)) [1, 2, 11] (L' := [(1, .int .u32 (vx 0 a0.R (a1.B : Int).toNat)), (2, .int .u32 v55), (11, .func (.func 33) #[] #[.pointer (some ad79)])]) (by kernel_rfl) ?_
       clear hs; intro a hs
       refine go_pvs 1 3 [11, 12, 13] hs (L' := [(11, .func (.func 33) #[] #[.pointer (some ad79)]), (12, .int .u32 (vx 0 a0.R (a1.B : Int).toNat)), (13, .int .u32 v55)]) (by kernel_rfl) ?_ rfl
       clear hs; intro a hs
       refine go_inline_k hs (op := (Op.call { callee := (Callee.value (Operand.tmp 11)), args := #[(Operand.tmp 12), (Operand.tmp 13)], argTypes := #[22, 22] })) (ty := 22) (dst := some 14) (g := none) (by kernel_rfl) (by kernel_rfl) (by kernel_rfl) (f := 33) (args := #[.int .u32 (vx 0 a0.R (a1.B : Int).toNat), .int .u32 v55, .pointer (some ad79)]) (by kernel_rfl) (fun KR118 hKR118 => ?_)
       refine go_fn Try.func33 rfl 10 Try.ntmps33 [(0, .int .u32 (vx 0 a0.R (a1.B : Int).toNat)), (1, .int .u32 v55), (2, .pointer (some ad79))] (by kernel_rfl) rfl ?_
       clear hs; intro a hs
       refine go_seq_k fun K119 hK119 => ?_
       refine go_region ?_
       refine go_pvs 0 1 [0, 1, 2] hs (L' := [(0, .int .u32 (vx 0 a0.R (a1.B : Int).toNat)), (1, .int .u32 v55), (2, .pointer (some ad79))]) (by kernel_rfl) ?_ rfl
       clear hs; intro a hs
       refine go_end (by kernel_rfl) ?_
       refine hK119 _ _ ?_
       refine go_seq_k fun K120 hK120 => ?_
       refine go_region ?_
       refine go_run hs (op := (Op.load 3 (Operand.tmp 2))) (ty := 3) (dst := some 6) (g := none) (by kernel_rfl) (by kernel_rfl) (by kernel_rfl) (x_ld (E := (eI .i64)) (off := 0) (p := ad79) (v := .int .i64 1) (Rd.of_own (hw.up 20)) (one_ok 1).1 (one_ok 1).2 (by kernel_rfl) (one_at _ _) (by kernel_rfl) (by kernel_rfl)) [0, 1, 6] (L' := [(0, .int .u32 (vx 0 a0.R (a1.B : Int).toNat)), (1, .int .u32 v55), (6, .int .i64 1)]) (by kernel_rfl) ?_
       clear hs; intro a hs
       refine go_pvs 1 3 [6, 7, 8] hs (L' := [(6, .int .i64 1), (7, .int .u32 (vx 0 a0.R (a1.B : Int).toNat)), (8, .int .u32 v55)]) (by kernel_rfl) ?_ rfl
       clear hs; intro a hs
       obtain ⟨t122, hx123, H⟩ := bind_some H
       refine go_call hs (op := (Op.call { callee := (Callee.value (Operand.func 34)), args := #[(Operand.tmp 6), (Operand.tmp 7), (Operand.tmp 8)], argTypes := #[3, 22, 22] })) (ty := 22) (dst := some 9) (g := none) (by kernel_rfl) (by kernel_rfl) (by kernel_rfl) (f := 34) (args := #[.int .i64 1, .int .u32 (vx 0 a0.R (a1.B : Int).toNat), .int .u32 v55]) (by kernel_rfl) (word_Shift.calls 1 (vx 0 a0.R (a1.B : Int).toNat) v55 t122 _ hx123) ?_
       rintro e wd124 ⟨rfl, hw125⟩
       refine ⟨_, rfl, ?_⟩
       replace hw := hw.call hw125
       intro a hs1
       replace hs : Slots a 10 [(9, .int .u32 t122)] := hs1.keep [9] (by kernel_rfl)
       clear hs1
       refine go_pvs 4 5 [5] hs (L' := [(5, .int .u32 t122)]) (by kernel_rfl) ?_ rfl
       clear hs; intro a hs
       refine go_end (by kernel_rfl) ?_
       refine hK120 _ _ ?_
       refine wp_ret ?_
       refine ret1 (t := 5) (v := .int .u32 t122) hs (by kernel_rfl) (by kernel_rfl) ?_
       refine ⟨_, rfl, ?_⟩
       refine hKR118 _ _ ?_
       intro a hs1
       have hs : Slots a _ [(14, .int .u32 t122)] := hs1.keep [14] (by kernel_rfl)
       clear hs1
       refine go_pvs 4 6 [9, 10] hs (L' := [(9, .int .u32 t122), (10, .bool true)]) (by kernel_rfl) ?_ rfl
       clear hs; intro a hs
       refine go_end (by kernel_rfl) ?_
       refine hK117 _ _ ?_
       refine wp_ret ?_
       refine ret2 (t1 := 9) (v1 := .int .u32 t122) (t2 := 10) (v2 := .bool true) hs (by kernel_rfl) (by kernel_rfl) (by kernel_rfl) ?_
       refine ⟨_, rfl, ?_⟩
       refine hKR115 _ _ ?_
       intro a hs1
       have hs : Slots a _ [(2, .pointer (some ad2)), (3, .pointer (some ad6)), (4, .pointer (some ad10)), (6, .pointer (some ad29)), (47, .tuple #[.int .u32 t122, .bool true])] := hs1.keep [2, 3, 4, 6, 47] (by kernel_rfl)
       clear hs1
       refine p_last ?_
       refine e_pvs [14, 15, 16, 17, 18] [] [2, 3, 4, 6, 7, 9] hs (L' := [(2, .pointer (some ad2)), (3, .pointer (some ad6)), (4, .pointer (some ad10)), (6, .pointer (some ad29)), (7, .int .u32 t122), (9, .bool true)]) (by kernel_rfl) ?_ (by kernel_rfl)
       clear hs; intro a hs
       refine e_end ?_
       refine hK57 _ _ ?_
       refine go_seq_k fun K126 hK126 => ?_
       refine go_region ?_
       refine go_pvs 0 2 [2, 3, 4, 6, 7, 51] hs (L' := [(2, .pointer (some ad2)), (3, .pointer (some ad6)), (4, .pointer (some ad10)), (6, .pointer (some ad29)), (7, .int .u32 t122), (51, .bool false)]) (by kernel_rfl) ?_ rfl
       clear hs; intro a hs
       refine go_end (by kernel_rfl) ?_
       refine hK126 _ _ ?_
       refine go_cond hs false (by kernel_rfl) (fun hc => ?_) (fun hc => ?_)
       ·cases hc
       ·skip
        refine wp_skip ?_
        refine ib_norm ?_
        replace hw := hw.up 24
        replace hw := hw.up 24
        replace hw := hw.up 24
        replace hw := hw.up 24
        replace hw := hw.only 4
        exact hJ7 (a0 : Sapi_Regs) t122 _ _ (hs.keep [3, 4, 6, 7] (by kernel_rfl)) hw H
      ·replace H := ite_f H hk114
       by_cases hk127 : a1.Op = 2
       ·replace H := ite_t H hk127
        replace hs := (congrArg (fun z => Slots a 69 [(2, .pointer (some ad2)), (3, .pointer (some ad6)), (4, .pointer (some ad10)), (6, .pointer (some ad29)), (34, .agg #[.func (.func 35) #[] #[], .func (.func 58) #[] #[.pointer (some (⟨g78, 0, none⟩ : Addr))], .func (.func 58) #[] #[.pointer (some (⟨g74, 0, none⟩ : Addr))], .func (.func 58) #[] #[.pointer (some (⟨g70, 0, none⟩ : Addr))], .func (.func 58) #[] #[.pointer (some (⟨g67, 0, none⟩ : Addr))], .func (.func 58) #[] #[.pointer (some (⟨g65, 0, none⟩ : Addr))], .func (.func 58) #[] #[.pointer (some (⟨g63, 0, none⟩ : Addr))], .func (.func 58) #[] #[.pointer (some (⟨g61, 0, none⟩ : Addr))], .func (.func 40) #[] #[], .func (.func 42) #[] #[], .func (.func 44) #[] #[], .func (.func 46) #[] #[]]), (36, .int .i64 z), (43, .int .u32 (vx 0 a0.R (a1.B : Int).toNat)), (44, .int .u32 v55), (46, .bool a1.U)]) hk127).mp hs
        replace hs : Slots a 69 [(2, .pointer (some ad2)), (3, .pointer (some ad6)), (4, .pointer (some ad10)), (6, .pointer (some ad29)), (34, .agg #[.func (.func 35) #[] #[], .func (.func 58) #[] #[.pointer (some (⟨g78, 0, none⟩ : Addr))], .func (.func 58) #[] #[.pointer (some (⟨g74, 0, none⟩ : Addr))], .func (.func 58) #[] #[.pointer (some (⟨g70, 0, none⟩ : Addr))], .func (.func 58) #[] #[.pointer (some (⟨g67, 0, none⟩ : Addr))], .func (.func 58) #[] #[.pointer (some (⟨g65, 0, none⟩ : Addr))], .func (.func 58) #[] #[.pointer (some (⟨g63, 0, none⟩ : Addr))], .func (.func 58) #[] #[.pointer (some (⟨g61, 0, none⟩ : Addr))], .func (.func 40) #[] #[], .func (.func 42) #[] #[], .func (.func 44) #[] #[], .func (.func 46) #[] #[]]), (36, .int .i64 2), (43, .int .u32 (vx 0 a0.R (a1.B : Int).toNat)), (44, .int .u32 v55), (46, .bool a1.U)] := hs
        refine s_pvs [3, 4] [] [2, 3, 4, 6, 38, 43, 44, 46] hbq hs (L' := [(2, .pointer (some ad2)), (3, .pointer (some ad6)), (4, .pointer (some ad10)), (6, .pointer (some ad29)), (38, .func (.func 58) #[] #[.pointer (some (⟨g74, 0, none⟩ : Addr))]), (43, .int .u32 (vx 0 a0.R (a1.B : Int).toNat)), (44, .int .u32 v55), (46, .bool a1.U)]) (by kernel_rfl) ?_ (by kernel_rfl)
        clear hs; intro a hs
        refine s_end ?_
        refine p_inline_k hs (op := (Op.call { callee := (Callee.value (Operand.tmp 38)), args := #[(Operand.tmp 6), (Operand.tmp 43), (Operand.tmp 44), (Operand.tmp 46)], argTypes := #[52, 22, 22, 4] })) (ty := 46) (dst := some 47) (g := none) (by kernel_rfl) (by kernel_rfl) (by kernel_rfl) (f := 58) (args := #[.pointer (some ad29), .int .u32 (vx 0 a0.R (a1.B : Int).toNat), .int .u32 v55, .bool a1.U, .pointer (some (⟨g74, 0, none⟩ : Addr))]) (by kernel_rfl) (fun KR128 hKR128 => ?_)
        refine go_fn Try.func58 rfl 15 Try.ntmps58 [(0, .pointer (some ad29)), (1, .int .u32 (vx 0 a0.R (a1.B : Int).toNat)), (2, .int .u32 v55), (3, .bool a1.U), (4, .pointer (some (⟨g74, 0, none⟩ : Addr)))] (by kernel_rfl) rfl ?_
        clear hs; intro a hs
        refine go_seq_k fun K129 hK129 => ?_
        refine go_region ?_
        refine go_pvs 0 2 [1, 2, 4] hs (L' := [(1, .int .u32 (vx 0 a0.R (a1.B : Int).toNat)), (2, .int .u32 v55), (4, .pointer (some (⟨g74, 0, none⟩ : Addr)))]) (by kernel_rfl) ?_ rfl
        clear hs; intro a hs
        refine go_end (by kernel_rfl) ?_
        refine hK129 _ _ ?_
        refine go_seq_k fun K130 hK130 => ?_
        refine go_region ?_
        refine go_run hs (op := (Op.load 67 (Operand.tmp 4))) (ty := 67) (dst := some 11) (g := none) (by kernel_rfl) (by kernel_rfl) (by kernel_rfl) (x_bld (g := g74) (o := 0) (p := (⟨g74, 0, none⟩ : Addr)) (v := .func (.func 33) #[] #[.pointer (some ad75)]) (hw.up 15) (by kernel_rfl) rfl (by kernel_rfl) (by kernel_rfl)) [1, 2, 11] (L' := [(1, .int .u32 (vx 0 a0.R (a1.B : Int).toNat)), (2, .int .u32 v55), (11, .func (.func 33) #[] #[.pointer (some ad75)])]) (by kernel_rfl) ?_
        clear hs; intro a hs
        refine go_pvs 1 3 [11, 12, 13] hs (L' := [(11, .func (.func 33) #[] #[.pointer (some ad75)]), (12, .int .u32 (vx 0 a0.R (a1.B : Int).toNat)), (13, .int .u32 v55)]) (by kernel_rfl) ?_ rfl
        clear hs; intro a hs
        refine go_inline_k hs (op := (Op.call { callee := (Callee.value (Operand.tmp 11)), args := #[(Operand.tmp 12), (Operand.tmp 13)], argTypes := #[22, 22] })) (ty := 22) (dst := some 14) (g := none) (by kernel_rfl) (by kernel_rfl) (by kernel_rfl) (f := 33) (args := #[.int .u32 (vx 0 a0.R (a1.B : Int).toNat), .int .u32 v55, .pointer (some ad75)]) (by kernel_rfl) (fun KR131 hKR131 => ?_)
        refine go_fn Try.func33 rfl 10 Try.ntmps33 [(0, .int .u32 (vx 0 a0.R (a1.B : Int).toNat)), (1, .int .u32 v55), (2, .pointer (some ad75))] (by kernel_rfl) rfl ?_
        clear hs; intro a hs
        refine go_seq_k fun K132 hK132 => ?_
        refine go_region ?_
        refine go_pvs 0 1 [0, 1, 2] hs (L' := [(0, .int .u32 (vx 0 a0.R (a1.B : Int).toNat)), (1, .int .u32 v55), (2, .pointer (some ad75))]) (by kernel_rfl) ?_ rfl
        clear hs; intro a hs
        refine go_end (by kernel_rfl) ?_
        refine hK132 _ _ ?_
        refine go_seq_k fun K133 hK133 => ?_
        refine go_region ?_
        refine go_run hs (op := (Op.load 3 (Operand.tmp 2))) (ty := 3) (dst := some 6) (g := none) (by kernel_rfl) (by kernel_rfl) (by kernel_rfl) (x_ld (E := (eI .i64)) (off := 0) (p := ad75) (v := .int .i64 2) (Rd.of_own (hw.up 16)) (one_ok 2).1 (one_ok 2).2 (by kernel_rfl) (one_at _ _) (by kernel_rfl) (by kernel_rfl)) [0, 1, 6] (L' := [(0, .int .u32 (vx 0 a0.R (a1.B : Int).toNat)), (1, .int .u32 v55), (6, .int .i64 2)]) (by kernel_rfl) ?_
        clear hs; intro a hs
        refine go_pvs 1 3 [6, 7, 8] hs (L' := [(6, .int .i64 2), (7, .int .u32 (vx 0 a0.R (a1.B : Int).toNat)), (8, .int .u32 v55)]) (by kernel_rfl) ?_ rfl
        clear hs; intro a hs
        obtain ⟨t135, hx136, H⟩ := bind_some H
        refine go_call hs (op := (Op.call { callee := (Callee.value (Operand.func 34)), args := #[(Operand.tmp 6), (Operand.tmp 7), (Operand.tmp 8)], argTypes := #[3, 22, 22] })) (ty := 22) (dst := some 9) (g := none) (by kernel_rfl) (by kernel_rfl) (by kernel_rfl) (f := 34) (args := #[.int .i64 2, .int .u32 (vx 0 a0.R (a1.B : Int).toNat), .int .u32 v55]) (by kernel_rfl) (word_Shift.calls 2 (vx 0 a0.R (a1.B : Int).toNat) v55 t135 _ hx136) ?_
        rintro e wd137 ⟨rfl, hw138⟩
        refine ⟨_, rfl, ?_⟩
        replace hw := hw.call hw138
        intro a hs1
        replace hs : Slots a 10 [(9, .int .u32 t135)] := hs1.keep [9] (by kernel_rfl)
        clear hs1
        refine go_pvs 4 5 [5] hs (L' := [(5, .int .u32 t135)]) (by kernel_rfl) ?_ rfl
        clear hs; intro a hs
        refine go_end (by kernel_rfl) ?_
        refine hK133 _ _ ?_
        refine wp_ret ?_
        refine ret1 (t := 5) (v := .int .u32 t135) hs (by kernel_rfl) (by kernel_rfl) ?_
        refine ⟨_, rfl, ?_⟩
        refine hKR131 _ _ ?_
        intro a hs1
        have hs : Slots a _ [(14, .int .u32 t135)] := hs1.keep [14] (by kernel_rfl)
        clear hs1
        refine go_pvs 4 6 [9, 10] hs (L' := [(9, .int .u32 t135), (10, .bool true)]) (by kernel_rfl) ?_ rfl
        clear hs; intro a hs
        refine go_end (by kernel_rfl) ?_
        refine hK130 _ _ ?_
        refine wp_ret ?_
        refine ret2 (t1 := 9) (v1 := .int .u32 t135) (t2 := 10) (v2 := .bool true) hs (by kernel_rfl) (by kernel_rfl) (by kernel_rfl) ?_
        refine ⟨_, rfl, ?_⟩
        refine hKR128 _ _ ?_
        intro a hs1
        have hs : Slots a _ [(2, .pointer (some ad2)), (3, .pointer (some ad6)), (4, .pointer (some ad10)), (6, .pointer (some ad29)), (47, .tuple #[.int .u32 t135, .bool true])] := hs1.keep [2, 3, 4, 6, 47] (by kernel_rfl)
        clear hs1
        refine p_last ?_
        refine e_pvs [14, 15, 16, 17, 18] [] [2, 3, 4, 6, 7, 9] hs (L' := [(2, .pointer (some ad2)), (3, .pointer (some ad6)), (4, .pointer (some ad10)), (6, .pointer (some ad29)), (7, .int .u32 t135), (9, .bool true)]) (by kernel_rfl) ?_ (by kernel_rfl)
        clear hs; intro a hs
        refine e_end ?_
        refine hK57 _ _ ?_
        refine go_seq_k fun K139 hK139 => ?_
        refine go_region ?_
        refine go_pvs 0 2 [2, 3, 4, 6, 7, 51] hs (L' := [(2, .pointer (some ad2)), (3, .pointer (some ad6)), (4, .pointer (some ad10)), (6, .pointer (some ad29)), (7, .int .u32 t135), (51, .bool false)]) (by kernel_rfl) ?_ rfl
        clear hs; intro a hs
        refine go_end (by kernel_rfl) ?_
        refine hK139 _ _ ?_
        refine go_cond hs false (by kernel_rfl) (fun hc => ?_) (fun hc => ?_)
        ·cases hc
        ·skip
         refine wp_skip ?_
         refine ib_norm ?_
         replace hw := hw.up 24
         replace hw := hw.up 24
         replace hw := hw.up 24
         replace hw := hw.up 24
         replace hw := hw.only 4
         exact hJ7 (a0 : Sapi_Regs) t135 _ _ (hs.keep [3, 4, 6, 7] (by kernel_rfl)) hw H
       ·replace H := ite_f H hk127
        by_cases hk140 : a1.Op = 3
        ·replace H := ite_t H hk140
         replace hs := (congrArg (fun z => Slots a 69 [(2, .pointer (some ad2)), (3, .pointer (some ad6)), (4, .pointer (some ad10)), (6, .pointer (some ad29)), (34, .agg #[.func (.func 35) #[] #[], .func (.func 58) #[] #[.pointer (some (⟨g78, 0, none⟩ : Addr))], .func (.func 58) #[] #[.pointer (some (⟨g74, 0, none⟩ : Addr))], .func (.func 58) #[] #[.pointer (some (⟨g70, 0, none⟩ : Addr))], .func (.func 58) #[] #[.pointer (some (⟨g67, 0, none⟩ : Addr))], .func (.func 58) #[] #[.pointer (some (⟨g65, 0, none⟩ : Addr))], .func (.func 58) #[] #[.pointer (some (⟨g63, 0, none⟩ : Addr))], .func (.func 58) #[] #[.pointer (some (⟨g61, 0, none⟩ : Addr))], .func (.func 40) #[] #[], .func (.func 42) #[] #[], .func (.func 44) #[] #[], .func (.func 46) #[] #[]]), (36, .int .i64 z), (43, .int .u32 (vx 0 a0.R (a1.B : Int).toNat)), (44, .int .u32 v55), (46, .bool a1.U)]) hk140).mp hs
         replace hs : Slots a 69 [(2, .pointer (some ad2)), (3, .pointer (some ad6)), (4, .pointer (some ad10)), (6, .pointer (some ad29)), (34, .agg #[.func (.func 35) #[] #[], .func (.func 58) #[] #[.pointer (some (⟨g78, 0, none⟩ : Addr))], .func (.func 58) #[] #[.pointer (some (⟨g74, 0, none⟩ : Addr))], .func (.func 58) #[] #[.pointer (some (⟨g70, 0, none⟩ : Addr))], .func (.func 58) #[] #[.pointer (some (⟨g67, 0, none⟩ : Addr))], .func (.func 58) #[] #[.pointer (some (⟨g65, 0, none⟩ : Addr))], .func (.func 58) #[] #[.pointer (some (⟨g63, 0, none⟩ : Addr))], .func (.func 58) #[] #[.pointer (some (⟨g61, 0, none⟩ : Addr))], .func (.func 40) #[] #[], .func (.func 42) #[] #[], .func (.func 44) #[] #[], .func (.func 46) #[] #[]]), (36, .int .i64 3), (43, .int .u32 (vx 0 a0.R (a1.B : Int).toNat)), (44, .int .u32 v55), (46, .bool a1.U)] := hs
         refine s_pvs [3, 4] [] [2, 3, 4, 6, 38, 43, 44, 46] hbq hs (L' := [(2, .pointer (some ad2)), (3, .pointer (some ad6)), (4, .pointer (some ad10)), (6, .pointer (some ad29)), (38, .func (.func 58) #[] #[.pointer (some (⟨g70, 0, none⟩ : Addr))]), (43, .int .u32 (vx 0 a0.R (a1.B : Int).toNat)), (44, .int .u32 v55), (46, .bool a1.U)]) (by kernel_rfl) ?_ (by kernel_rfl)
         clear hs; intro a hs
         refine s_end ?_
         refine p_inline_k hs (op := (Op.call { callee := (Callee.value (Operand.tmp 38)), args := #[(Operand.tmp 6), (Operand.tmp 43), (Operand.tmp 44), (Operand.tmp 46)], argTypes := #[52, 22, 22, 4] })) (ty := 46) (dst := some 47) (g := none) (by kernel_rfl) (by kernel_rfl) (by kernel_rfl) (f := 58) (args := #[.pointer (some ad29), .int .u32 (vx 0 a0.R (a1.B : Int).toNat), .int .u32 v55, .bool a1.U, .pointer (some (⟨g70, 0, none⟩ : Addr))]) (by kernel_rfl) (fun KR141 hKR141 => ?_)
         refine go_fn Try.func58 rfl 15 Try.ntmps58 [(0, .pointer (some ad29)), (1, .int .u32 (vx 0 a0.R (a1.B : Int).toNat)), (2, .int .u32 v55), (3, .bool a1.U), (4, .pointer (some (⟨g70, 0, none⟩ : Addr)))] (by kernel_rfl) rfl ?_
         clear hs; intro a hs
         refine go_seq_k fun K142 hK142 => ?_
         refine go_region ?_
         refine go_pvs 0 2 [1, 2, 4] hs (L' := [(1, .int .u32 (vx 0 a0.R (a1.B : Int).toNat)), (2, .int .u32 v55), (4, .pointer (some (⟨g70, 0, none⟩ : Addr)))]) (by kernel_rfl) ?_ rfl
         clear hs; intro a hs
         refine go_end (by kernel_rfl) ?_
         refine hK142 _ _ ?_
         refine go_seq_k fun K143 hK143 => ?_
         refine go_region ?_
         refine go_run hs (op := (Op.load 67 (Operand.tmp 4))) (ty := 67) (dst := some 11) (g := none) (by kernel_rfl) (by kernel_rfl) (by kernel_rfl) (x_bld (g := g70) (o := 0) (p := (⟨g70, 0, none⟩ : Addr)) (v := .func (.func 33) #[] #[.pointer (some ad71)]) (hw.up 11) (by kernel_rfl) rfl (by kernel_rfl) (by kernel_rfl)) [1, 2, 11] (L' := [(1, .int .u32 (vx 0 a0.R (a1.B : Int).toNat)), (2, .int .u32 v55), (11, .func (.func 33) #[] #[.pointer (some ad71)])]) (by kernel_rfl) ?_
         clear hs; intro a hs
         refine go_pvs 1 3 [11, 12, 13] hs (L' := [(11, .func (.func 33) #[] #[.pointer (some ad71)]), (12, .int .u32 (vx 0 a0.R (a1.B : Int).toNat)), (13, .int .u32 v55)]) (by kernel_rfl) ?_ rfl
         clear hs; intro a hs
         refine go_inline_k hs (op := (Op.call { callee := (Callee.value (Operand.tmp 11)), args := #[(Operand.tmp 12), (Operand.tmp 13)], argTypes := #[22, 22] })) (ty := 22) (dst := some 14) (g := none) (by kernel_rfl) (by kernel_rfl) (by kernel_rfl) (f := 33) (args := #[.int .u32 (vx 0 a0.R (a1.B : Int).toNat), .int .u32 v55, .pointer (some ad71)]) (by kernel_rfl) (fun KR144 hKR144 => ?_)
         refine go_fn Try.func33 rfl 10 Try.ntmps33 [(0, .int .u32 (vx 0 a0.R (a1.B : Int).toNat)), (1, .int .u32 v55), (2, .pointer (some ad71))] (by kernel_rfl) rfl ?_
         clear hs; intro a hs
         refine go_seq_k fun K145 hK145 => ?_
         refine go_region ?_
         refine go_pvs 0 1 [0, 1, 2] hs (L' := [(0, .int .u32 (vx 0 a0.R (a1.B : Int).toNat)), (1, .int .u32 v55), (2, .pointer (some ad71))]) (by kernel_rfl) ?_ rfl
         clear hs; intro a hs
         refine go_end (by kernel_rfl) ?_
         refine hK145 _ _ ?_
         refine go_seq_k fun K146 hK146 => ?_
         refine go_region ?_
         refine go_run hs (op := (Op.load 3 (Operand.tmp 2))) (ty := 3) (dst := some 6) (g := none) (by kernel_rfl) (by kernel_rfl) (by kernel_rfl) (x_ld (E := (eI .i64)) (off := 0) (p := ad71) (v := .int .i64 3) (Rd.of_own (hw.up 12)) (one_ok 3).1 (one_ok 3).2 (by kernel_rfl) (one_at _ _) (by kernel_rfl) (by kernel_rfl)) [0, 1, 6] (L' := [(0, .int .u32 (vx 0 a0.R (a1.B : Int).toNat)), (1, .int .u32 v55), (6, .int .i64 3)]) (by kernel_rfl) ?_
         clear hs; intro a hs
         refine go_pvs 1 3 [6, 7, 8] hs (L' := [(6, .int .i64 3), (7, .int .u32 (vx 0 a0.R (a1.B : Int).toNat)), (8, .int .u32 v55)]) (by kernel_rfl) ?_ rfl
         clear hs; intro a hs
         obtain ⟨t148, hx149, H⟩ := bind_some H
         refine go_call hs (op := (Op.call { callee := (Callee.value (Operand.func 34)), args := #[(Operand.tmp 6), (Operand.tmp 7), (Operand.tmp 8)], argTypes := #[3, 22, 22] })) (ty := 22) (dst := some 9) (g := none) (by kernel_rfl) (by kernel_rfl) (by kernel_rfl) (f := 34) (args := #[.int .i64 3, .int .u32 (vx 0 a0.R (a1.B : Int).toNat), .int .u32 v55]) (by kernel_rfl) (word_Shift.calls 3 (vx 0 a0.R (a1.B : Int).toNat) v55 t148 _ hx149) ?_
         rintro e wd150 ⟨rfl, hw151⟩
         refine ⟨_, rfl, ?_⟩
         replace hw := hw.call hw151
         intro a hs1
         replace hs : Slots a 10 [(9, .int .u32 t148)] := hs1.keep [9] (by kernel_rfl)
         clear hs1
         refine go_pvs 4 5 [5] hs (L' := [(5, .int .u32 t148)]) (by kernel_rfl) ?_ rfl
         clear hs; intro a hs
         refine go_end (by kernel_rfl) ?_
         refine hK146 _ _ ?_
         refine wp_ret ?_
         refine ret1 (t := 5) (v := .int .u32 t148) hs (by kernel_rfl) (by kernel_rfl) ?_
         refine ⟨_, rfl, ?_⟩
         refine hKR144 _ _ ?_
         intro a hs1
         have hs : Slots a _ [(14, .int .u32 t148)] := hs1.keep [14] (by kernel_rfl)
         clear hs1
         refine go_pvs 4 6 [9, 10] hs (L' := [(9, .int .u32 t148), (10, .bool true)]) (by kernel_rfl) ?_ rfl
         clear hs; intro a hs
         refine go_end (by kernel_rfl) ?_
         refine hK143 _ _ ?_
         refine wp_ret ?_
         refine ret2 (t1 := 9) (v1 := .int .u32 t148) (t2 := 10) (v2 := .bool true) hs (by kernel_rfl) (by kernel_rfl) (by kernel_rfl) ?_
         refine ⟨_, rfl, ?_⟩
         refine hKR141 _ _ ?_
         intro a hs1
         have hs : Slots a _ [(2, .pointer (some ad2)), (3, .pointer (some ad6)), (4, .pointer (some ad10)), (6, .pointer (some ad29)), (47, .tuple #[.int .u32 t148, .bool true])] := hs1.keep [2, 3, 4, 6, 47] (by kernel_rfl)
         clear hs1
         refine p_last ?_
         refine e_pvs [14, 15, 16, 17, 18] [] [2, 3, 4, 6, 7, 9] hs (L' := [(2, .pointer (some ad2)), (3, .pointer (some ad6)), (4, .pointer (some ad10)), (6, .pointer (some ad29)), (7, .int .u32 t148), (9, .bool true)]) (by kernel_rfl) ?_ (by kernel_rfl)
         clear hs; intro a hs
         refine e_end ?_
         refine hK57 _ _ ?_
         refine go_seq_k fun K152 hK152 => ?_
         refine go_region ?_
         refine go_pvs 0 2 [2, 3, 4, 6, 7, 51] hs (L' := [(2, .pointer (some ad2)), (3, .pointer (some ad6)), (4, .pointer (some ad10)), (6, .pointer (some ad29)), (7, .int .u32 t148), (51, .bool false)]) (by kernel_rfl) ?_ rfl
         clear hs; intro a hs
         refine go_end (by kernel_rfl) ?_
         refine hK152 _ _ ?_
         refine go_cond hs false (by kernel_rfl) (fun hc => ?_) (fun hc => ?_)
         ·cases hc
         ·skip
          refine wp_skip ?_
          refine ib_norm ?_
          replace hw := hw.up 24
          replace hw := hw.up 24
          replace hw := hw.up 24
          replace hw := hw.up 24
          replace hw := hw.only 4
          exact hJ7 (a0 : Sapi_Regs) t148 _ _ (hs.keep [3, 4, 6, 7] (by kernel_rfl)) hw H
        ·replace H := ite_f H hk140
         by_cases hk153 : a1.Op = 4
         ·replace H := ite_t H hk153
          replace hs := (congrArg (fun z => Slots a 69 [(2, .pointer (some ad2)), (3, .pointer (some ad6)), (4, .pointer (some ad10)), (6, .pointer (some ad29)), (34, .agg #[.func (.func 35) #[] #[], .func (.func 58) #[] #[.pointer (some (⟨g78, 0, none⟩ : Addr))], .func (.func 58) #[] #[.pointer (some (⟨g74, 0, none⟩ : Addr))], .func (.func 58) #[] #[.pointer (some (⟨g70, 0, none⟩ : Addr))], .func (.func 58) #[] #[.pointer (some (⟨g67, 0, none⟩ : Addr))], .func (.func 58) #[] #[.pointer (some (⟨g65, 0, none⟩ : Addr))], .func (.func 58) #[] #[.pointer (some (⟨g63, 0, none⟩ : Addr))], .func (.func 58) #[] #[.pointer (some (⟨g61, 0, none⟩ : Addr))], .func (.func 40) #[] #[], .func (.func 42) #[] #[], .func (.func 44) #[] #[], .func (.func 46) #[] #[]]), (36, .int .i64 z), (43, .int .u32 (vx 0 a0.R (a1.B : Int).toNat)), (44, .int .u32 v55), (46, .bool a1.U)]) hk153).mp hs
          replace hs : Slots a 69 [(2, .pointer (some ad2)), (3, .pointer (some ad6)), (4, .pointer (some ad10)), (6, .pointer (some ad29)), (34, .agg #[.func (.func 35) #[] #[], .func (.func 58) #[] #[.pointer (some (⟨g78, 0, none⟩ : Addr))], .func (.func 58) #[] #[.pointer (some (⟨g74, 0, none⟩ : Addr))], .func (.func 58) #[] #[.pointer (some (⟨g70, 0, none⟩ : Addr))], .func (.func 58) #[] #[.pointer (some (⟨g67, 0, none⟩ : Addr))], .func (.func 58) #[] #[.pointer (some (⟨g65, 0, none⟩ : Addr))], .func (.func 58) #[] #[.pointer (some (⟨g63, 0, none⟩ : Addr))], .func (.func 58) #[] #[.pointer (some (⟨g61, 0, none⟩ : Addr))], .func (.func 40) #[] #[], .func (.func 42) #[] #[], .func (.func 44) #[] #[], .func (.func 46) #[] #[]]), (36, .int .i64 4), (43, .int .u32 (vx 0 a0.R (a1.B : Int).toNat)), (44, .int .u32 v55), (46, .bool a1.U)] := hs
          refine s_pvs [3, 4] [] [2, 3, 4, 6, 38, 43, 44, 46] hbq hs (L' := [(2, .pointer (some ad2)), (3, .pointer (some ad6)), (4, .pointer (some ad10)), (6, .pointer (some ad29)), (38, .func (.func 58) #[] #[.pointer (some (⟨g67, 0, none⟩ : Addr))]), (43, .int .u32 (vx 0 a0.R (a1.B : Int).toNat)), (44, .int .u32 v55), (46, .bool a1.U)]) (by kernel_rfl) ?_ (by kernel_rfl)
          clear hs; intro a hs
          refine s_end ?_
          refine p_inline_k hs (op := (Op.call { callee := (Callee.value (Operand.tmp 38)), args := #[(Operand.tmp 6), (Operand.tmp 43), (Operand.tmp 44), (Operand.tmp 46)], argTypes := #[52, 22, 22, 4] })) (ty := 46) (dst := some 47) (g := none) (by kernel_rfl) (by kernel_rfl) (by kernel_rfl) (f := 58) (args := #[.pointer (some ad29), .int .u32 (vx 0 a0.R (a1.B : Int).toNat), .int .u32 v55, .bool a1.U, .pointer (some (⟨g67, 0, none⟩ : Addr))]) (by kernel_rfl) (fun KR154 hKR154 => ?_)
          refine go_fn Try.func58 rfl 15 Try.ntmps58 [(0, .pointer (some ad29)), (1, .int .u32 (vx 0 a0.R (a1.B : Int).toNat)), (2, .int .u32 v55), (3, .bool a1.U), (4, .pointer (some (⟨g67, 0, none⟩ : Addr)))] (by kernel_rfl) rfl ?_
          clear hs; intro a hs
          refine go_seq_k fun K155 hK155 => ?_
          refine go_region ?_
          refine go_pvs 0 2 [1, 2, 4] hs (L' := [(1, .int .u32 (vx 0 a0.R (a1.B : Int).toNat)), (2, .int .u32 v55), (4, .pointer (some (⟨g67, 0, none⟩ : Addr)))]) (by kernel_rfl) ?_ rfl
          clear hs; intro a hs
          refine go_end (by kernel_rfl) ?_
          refine hK155 _ _ ?_
          refine go_seq_k fun K156 hK156 => ?_
          refine go_region ?_
          refine go_run hs (op := (Op.load 67 (Operand.tmp 4))) (ty := 67) (dst := some 11) (g := none) (by kernel_rfl) (by kernel_rfl) (by kernel_rfl) (x_bld (g := g67) (o := 0) (p := (⟨g67, 0, none⟩ : Addr)) (v := .func (.func 36) #[] #[]) (hw.up 8) (by kernel_rfl) rfl (by kernel_rfl) (by kernel_rfl)) [1, 2, 11] (L' := [(1, .int .u32 (vx 0 a0.R (a1.B : Int).toNat)), (2, .int .u32 v55), (11, .func (.func 36) #[] #[])]) (by kernel_rfl) ?_
          clear hs; intro a hs
          refine go_pvs 1 3 [11, 12, 13] hs (L' := [(11, .func (.func 36) #[] #[]), (12, .int .u32 (vx 0 a0.R (a1.B : Int).toNat)), (13, .int .u32 v55)]) (by kernel_rfl) ?_ rfl
          clear hs; intro a hs
          refine go_inline_k hs (op := (Op.call { callee := (Callee.value (Operand.tmp 11)), args := #[(Operand.tmp 12), (Operand.tmp 13)], argTypes := #[22, 22] })) (ty := 22) (dst := some 14) (g := none) (by kernel_rfl) (by kernel_rfl) (by kernel_rfl) (f := 36) (args := #[.int .u32 (vx 0 a0.R (a1.B : Int).toNat), .int .u32 v55]) (by kernel_rfl) (fun KR157 hKR157 => ?_)
          refine go_fn Try.func36 rfl 8 Try.ntmps36 [(0, .int .u32 (vx 0 a0.R (a1.B : Int).toNat)), (1, .int .u32 v55)] (by kernel_rfl) rfl ?_
          clear hs; intro a hs
          refine go_seq_k fun K158 hK158 => ?_
          refine go_region ?_
          refine go_pvs 0 1 [0, 1] hs (L' := [(0, .int .u32 (vx 0 a0.R (a1.B : Int).toNat)), (1, .int .u32 v55)]) (by kernel_rfl) ?_ rfl
          clear hs; intro a hs
          refine go_end (by kernel_rfl) ?_
          refine hK158 _ _ ?_
          refine go_seq_k fun K159 hK159 => ?_
          refine go_region ?_
          refine go_pvs 0 4 [4] hs (L' := [(4, .int .u32 (band .u32 (vx 0 a0.R (a1.B : Int).toNat) v55))]) (by kernel_rfl) ?_ rfl
          clear hs; intro a hs
          refine go_end (by kernel_rfl) ?_
          refine hK159 _ _ ?_
          refine wp_ret ?_
          refine ret1 (t := 4) (v := .int .u32 (band .u32 (vx 0 a0.R (a1.B : Int).toNat) v55)) hs (by kernel_rfl) (by kernel_rfl) ?_
          refine ⟨_, rfl, ?_⟩
          refine hKR157 _ _ ?_
          intro a hs1
          have hs : Slots a _ [(14, .int .u32 (band .u32 (vx 0 a0.R (a1.B : Int).toNat) v55))] := hs1.keep [14] (by kernel_rfl)
          clear hs1
          refine go_pvs 4 6 [9, 10] hs (L' := [(9, .int .u32 (band .u32 (vx 0 a0.R (a1.B : Int).toNat) v55)), (10, .bool true)]) (by kernel_rfl) ?_ rfl
          clear hs; intro a hs
          refine go_end (by kernel_rfl) ?_
          refine hK156 _ _ ?_
          refine wp_ret ?_
          refine ret2 (t1 := 9) (v1 := .int .u32 (band .u32 (vx 0 a0.R (a1.B : Int).toNat) v55)) (t2 := 10) (v2 := .bool true) hs (by kernel_rfl) (by kernel_rfl) (by kernel_rfl) ?_
          refine ⟨_, rfl, ?_⟩
          refine hKR154 _ _ ?_
          intro a hs1
          have hs : Slots a _ [(2, .pointer (some ad2)), (3, .pointer (some ad6)), (4, .pointer (some ad10)), (6, .pointer (some ad29)), (47, .tuple #[.int .u32 (band .u32 (vx 0 a0.R (a1.B : Int).toNat) v55), .bool true])] := hs1.keep [2, 3, 4, 6, 47] (by kernel_rfl)
          clear hs1
          refine p_last ?_
          refine e_pvs [14, 15, 16, 17, 18] [] [2, 3, 4, 6, 7, 9] hs (L' := [(2, .pointer (some ad2)), (3, .pointer (some ad6)), (4, .pointer (some ad10)), (6, .pointer (some ad29)), (7, .int .u32 (band .u32 (vx 0 a0.R (a1.B : Int).toNat) v55)), (9, .bool true)]) (by kernel_rfl) ?_ (by kernel_rfl)
          clear hs; intro a hs
          refine e_end ?_
          refine hK57 _ _ ?_
          refine go_seq_k fun K160 hK160 => ?_
          refine go_region ?_
          refine go_pvs 0 2 [2, 3, 4, 6, 7, 51] hs (L' := [(2, .pointer (some ad2)), (3, .pointer (some ad6)), (4, .pointer (some ad10)), (6, .pointer (some ad29)), (7, .int .u32 (band .u32 (vx 0 a0.R (a1.B : Int).toNat) v55)), (51, .bool false)]) (by kernel_rfl) ?_ rfl
          clear hs; intro a hs
          refine go_end (by kernel_rfl) ?_
          refine hK160 _ _ ?_
          refine go_cond hs false (by kernel_rfl) (fun hc => ?_) (fun hc => ?_)
          ·cases hc
          ·skip
           refine wp_skip ?_
           refine ib_norm ?_
           replace hw := hw.up 24
           replace hw := hw.up 24
           replace hw := hw.up 24
           replace hw := hw.up 24
           replace hw := hw.only 4
           exact hJ7 (a0 : Sapi_Regs) (band .u32 (vx 0 a0.R (a1.B : Int).toNat) v55) _ _ (hs.keep [3, 4, 6, 7] (by kernel_rfl)) hw H
         ·replace H := ite_f H hk153
          by_cases hk161 : a1.Op = 5
          ·replace H := ite_t H hk161
           replace hs := (congrArg (fun z => Slots a 69 [(2, .pointer (some ad2)), (3, .pointer (some ad6)), (4, .pointer (some ad10)), (6, .pointer (some ad29)), (34, .agg #[.func (.func 35) #[] #[], .func (.func 58) #[] #[.pointer (some (⟨g78, 0, none⟩ : Addr))], .func (.func 58) #[] #[.pointer (some (⟨g74, 0, none⟩ : Addr))], .func (.func 58) #[] #[.pointer (some (⟨g70, 0, none⟩ : Addr))], .func (.func 58) #[] #[.pointer (some (⟨g67, 0, none⟩ : Addr))], .func (.func 58) #[] #[.pointer (some (⟨g65, 0, none⟩ : Addr))], .func (.func 58) #[] #[.pointer (some (⟨g63, 0, none⟩ : Addr))], .func (.func 58) #[] #[.pointer (some (⟨g61, 0, none⟩ : Addr))], .func (.func 40) #[] #[], .func (.func 42) #[] #[], .func (.func 44) #[] #[], .func (.func 46) #[] #[]]), (36, .int .i64 z), (43, .int .u32 (vx 0 a0.R (a1.B : Int).toNat)), (44, .int .u32 v55), (46, .bool a1.U)]) hk161).mp hs
           replace hs : Slots a 69 [(2, .pointer (some ad2)), (3, .pointer (some ad6)), (4, .pointer (some ad10)), (6, .pointer (some ad29)), (34, .agg #[.func (.func 35) #[] #[], .func (.func 58) #[] #[.pointer (some (⟨g78, 0, none⟩ : Addr))], .func (.func 58) #[] #[.pointer (some (⟨g74, 0, none⟩ : Addr))], .func (.func 58) #[] #[.pointer (some (⟨g70, 0, none⟩ : Addr))], .func (.func 58) #[] #[.pointer (some (⟨g67, 0, none⟩ : Addr))], .func (.func 58) #[] #[.pointer (some (⟨g65, 0, none⟩ : Addr))], .func (.func 58) #[] #[.pointer (some (⟨g63, 0, none⟩ : Addr))], .func (.func 58) #[] #[.pointer (some (⟨g61, 0, none⟩ : Addr))], .func (.func 40) #[] #[], .func (.func 42) #[] #[], .func (.func 44) #[] #[], .func (.func 46) #[] #[]]), (36, .int .i64 5), (43, .int .u32 (vx 0 a0.R (a1.B : Int).toNat)), (44, .int .u32 v55), (46, .bool a1.U)] := hs
           refine s_pvs [3, 4] [] [2, 3, 4, 6, 38, 43, 44, 46] hbq hs (L' := [(2, .pointer (some ad2)), (3, .pointer (some ad6)), (4, .pointer (some ad10)), (6, .pointer (some ad29)), (38, .func (.func 58) #[] #[.pointer (some (⟨g65, 0, none⟩ : Addr))]), (43, .int .u32 (vx 0 a0.R (a1.B : Int).toNat)), (44, .int .u32 v55), (46, .bool a1.U)]) (by kernel_rfl) ?_ (by kernel_rfl)
           clear hs; intro a hs
           refine s_end ?_
           refine p_inline_k hs (op := (Op.call { callee := (Callee.value (Operand.tmp 38)), args := #[(Operand.tmp 6), (Operand.tmp 43), (Operand.tmp 44), (Operand.tmp 46)], argTypes := #[52, 22, 22, 4] })) (ty := 46) (dst := some 47) (g := none) (by kernel_rfl) (by kernel_rfl) (by kernel_rfl) (f := 58) (args := #[.pointer (some ad29), .int .u32 (vx 0 a0.R (a1.B : Int).toNat), .int .u32 v55, .bool a1.U, .pointer (some (⟨g65, 0, none⟩ : Addr))]) (by kernel_rfl) (fun KR162 hKR162 => ?_)
           refine go_fn Try.func58 rfl 15 Try.ntmps58 [(0, .pointer (some ad29)), (1, .int .u32 (vx 0 a0.R (a1.B : Int).toNat)), (2, .int .u32 v55), (3, .bool a1.U), (4, .pointer (some (⟨g65, 0, none⟩ : Addr)))] (by kernel_rfl) rfl ?_
           clear hs; intro a hs
           refine go_seq_k fun K163 hK163 => ?_
           refine go_region ?_
           refine go_pvs 0 2 [1, 2, 4] hs (L' := [(1, .int .u32 (vx 0 a0.R (a1.B : Int).toNat)), (2, .int .u32 v55), (4, .pointer (some (⟨g65, 0, none⟩ : Addr)))]) (by kernel_rfl) ?_ rfl
           clear hs; intro a hs
           refine go_end (by kernel_rfl) ?_
           refine hK163 _ _ ?_
           refine go_seq_k fun K164 hK164 => ?_
           refine go_region ?_
           refine go_run hs (op := (Op.load 67 (Operand.tmp 4))) (ty := 67) (dst := some 11) (g := none) (by kernel_rfl) (by kernel_rfl) (by kernel_rfl) (x_bld (g := g65) (o := 0) (p := (⟨g65, 0, none⟩ : Addr)) (v := .func (.func 37) #[] #[]) (hw.up 6) (by kernel_rfl) rfl (by kernel_rfl) (by kernel_rfl)) [1, 2, 11] (L' := [(1, .int .u32 (vx 0 a0.R (a1.B : Int).toNat)), (2, .int .u32 v55), (11, .func (.func 37) #[] #[])]) (by kernel_rfl) ?_
           clear hs; intro a hs
           refine go_pvs 1 3 [11, 12, 13] hs (L' := [(11, .func (.func 37) #[] #[]), (12, .int .u32 (vx 0 a0.R (a1.B : Int).toNat)), (13, .int .u32 v55)]) (by kernel_rfl) ?_ rfl
           clear hs; intro a hs
           refine go_inline_k hs (op := (Op.call { callee := (Callee.value (Operand.tmp 11)), args := #[(Operand.tmp 12), (Operand.tmp 13)], argTypes := #[22, 22] })) (ty := 22) (dst := some 14) (g := none) (by kernel_rfl) (by kernel_rfl) (by kernel_rfl) (f := 37) (args := #[.int .u32 (vx 0 a0.R (a1.B : Int).toNat), .int .u32 v55]) (by kernel_rfl) (fun KR165 hKR165 => ?_)
           refine go_fn Try.func37 rfl 8 Try.ntmps37 [(0, .int .u32 (vx 0 a0.R (a1.B : Int).toNat)), (1, .int .u32 v55)] (by kernel_rfl) rfl ?_
           clear hs; intro a hs
           refine go_seq_k fun K166 hK166 => ?_
           refine go_region ?_
           refine go_pvs 0 1 [0, 1] hs (L' := [(0, .int .u32 (vx 0 a0.R (a1.B : Int).toNat)), (1, .int .u32 v55)]) (by kernel_rfl) ?_ rfl
           clear hs; intro a hs
           refine go_end (by kernel_rfl) ?_
           refine hK166 _ _ ?_
           refine go_seq_k fun K167 hK167 => ?_
           refine go_region ?_
           refine go_pvs 0 4 [4] hs (L' := [(4, .int .u32 (bandn .u32 (vx 0 a0.R (a1.B : Int).toNat) v55))]) (by kernel_rfl) ?_ rfl
           clear hs; intro a hs
           refine go_end (by kernel_rfl) ?_
           refine hK167 _ _ ?_
           refine wp_ret ?_
           refine ret1 (t := 4) (v := .int .u32 (bandn .u32 (vx 0 a0.R (a1.B : Int).toNat) v55)) hs (by kernel_rfl) (by kernel_rfl) ?_
           refine ⟨_, rfl, ?_⟩
           refine hKR165 _ _ ?_
           intro a hs1
           have hs : Slots a _ [(14, .int .u32 (bandn .u32 (vx 0 a0.R (a1.B : Int).toNat) v55))] := hs1.keep [14] (by kernel_rfl)
           clear hs1
           refine go_pvs 4 6 [9, 10] hs (L' := [(9, .int .u32 (bandn .u32 (vx 0 a0.R (a1.B : Int).toNat) v55)), (10, .bool true)]) (by kernel_rfl) ?_ rfl
           clear hs; intro a hs
           refine go_end (by kernel_rfl) ?_
           refine hK164 _ _ ?_
           refine wp_ret ?_
           refine ret2 (t1 := 9) (v1 := .int .u32 (bandn .u32 (vx 0 a0.R (a1.B : Int).toNat) v55)) (t2 := 10) (v2 := .bool true) hs (by kernel_rfl) (by kernel_rfl) (by kernel_rfl) ?_
           refine ⟨_, rfl, ?_⟩
           refine hKR162 _ _ ?_
           intro a hs1
           have hs : Slots a _ [(2, .pointer (some ad2)), (3, .pointer (some ad6)), (4, .pointer (some ad10)), (6, .pointer (some ad29)), (47, .tuple #[.int .u32 (bandn .u32 (vx 0 a0.R (a1.B : Int).toNat) v55), .bool true])] := hs1.keep [2, 3, 4, 6, 47] (by kernel_rfl)
           clear hs1
           refine p_last ?_
           refine e_pvs [14, 15, 16, 17, 18] [] [2, 3, 4, 6, 7, 9] hs (L' := [(2, .pointer (some ad2)), (3, .pointer (some ad6)), (4, .pointer (some ad10)), (6, .pointer (some ad29)), (7, .int .u32 (bandn .u32 (vx 0 a0.R (a1.B : Int).toNat) v55)), (9, .bool true)]) (by kernel_rfl) ?_ (by kernel_rfl)
           clear hs; intro a hs
           refine e_end ?_
           refine hK57 _ _ ?_
           refine go_seq_k fun K168 hK168 => ?_
           refine go_region ?_
           refine go_pvs 0 2 [2, 3, 4, 6, 7, 51] hs (L' := [(2, .pointer (some ad2)), (3, .pointer (some ad6)), (4, .pointer (some ad10)), (6, .pointer (some ad29)), (7, .int .u32 (bandn .u32 (vx 0 a0.R (a1.B : Int).toNat) v55)), (51, .bool false)]) (by kernel_rfl) ?_ rfl
           clear hs; intro a hs
           refine go_end (by kernel_rfl) ?_
           refine hK168 _ _ ?_
           refine go_cond hs false (by kernel_rfl) (fun hc => ?_) (fun hc => ?_)
           ·cases hc
           ·skip
            refine wp_skip ?_
            refine ib_norm ?_
            replace hw := hw.up 24
            replace hw := hw.up 24
            replace hw := hw.up 24
            replace hw := hw.up 24
            replace hw := hw.only 4
            exact hJ7 (a0 : Sapi_Regs) (bandn .u32 (vx 0 a0.R (a1.B : Int).toNat) v55) _ _ (hs.keep [3, 4, 6, 7] (by kernel_rfl)) hw H
          ·replace H := ite_f H hk161
           by_cases hk169 : a1.Op = 6
           ·replace H := ite_t H hk169
            replace hs := (congrArg (fun z => Slots a 69 [(2, .pointer (some ad2)), (3, .pointer (some ad6)), (4, .pointer (some ad10)), (6, .pointer (some ad29)), (34, .agg #[.func (.func 35) #[] #[], .func (.func 58) #[] #[.pointer (some (⟨g78, 0, none⟩ : Addr))], .func (.func 58) #[] #[.pointer (some (⟨g74, 0, none⟩ : Addr))], .func (.func 58) #[] #[.pointer (some (⟨g70, 0, none⟩ : Addr))], .func (.func 58) #[] #[.pointer (some (⟨g67, 0, none⟩ : Addr))], .func (.func 58) #[] #[.pointer (some (⟨g65, 0, none⟩ : Addr))], .func (.func 58) #[] #[.pointer (some (⟨g63, 0, none⟩ : Addr))], .func (.func 58) #[] #[.pointer (some (⟨g61, 0, none⟩ : Addr))], .func (.func 40) #[] #[], .func (.func 42) #[] #[], .func (.func 44) #[] #[], .func (.func 46) #[] #[]]), (36, .int .i64 z), (43, .int .u32 (vx 0 a0.R (a1.B : Int).toNat)), (44, .int .u32 v55), (46, .bool a1.U)]) hk169).mp hs
            replace hs : Slots a 69 [(2, .pointer (some ad2)), (3, .pointer (some ad6)), (4, .pointer (some ad10)), (6, .pointer (some ad29)), (34, .agg #[.func (.func 35) #[] #[], .func (.func 58) #[] #[.pointer (some (⟨g78, 0, none⟩ : Addr))], .func (.func 58) #[] #[.pointer (some (⟨g74, 0, none⟩ : Addr))], .func (.func 58) #[] #[.pointer (some (⟨g70, 0, none⟩ : Addr))], .func (.func 58) #[] #[.pointer (some (⟨g67, 0, none⟩ : Addr))], .func (.func 58) #[] #[.pointer (some (⟨g65, 0, none⟩ : Addr))], .func (.func 58) #[] #[.pointer (some (⟨g63, 0, none⟩ : Addr))], .func (.func 58) #[] #[.pointer (some (⟨g61, 0, none⟩ : Addr))], .func (.func 40) #[] #[], .func (.func 42) #[] #[], .func (.func 44) #[] #[], .func (.func 46) #[] #[]]), (36, .int .i64 6), (43, .int .u32 (vx 0 a0.R (a1.B : Int).toNat)), (44, .int .u32 v55), (46, .bool a1.U)] := hs
            refine s_pvs [3, 4] [] [2, 3, 4, 6, 38, 43, 44, 46] hbq hs (L' := [(2, .pointer (some ad2)), (3, .pointer (some ad6)), (4, .pointer (some ad10)), (6, .pointer (some ad29)), (38, .func (.func 58) #[] #[.pointer (some (⟨g63, 0, none⟩ : Addr))]), (43, .int .u32 (vx 0 a0.R (a1.B : Int).toNat)), (44, .int .u32 v55), (46, .bool a1.U)]) (by kernel_rfl) ?_ (by kernel_rfl)
            clear hs; intro a hs
            refine s_end ?_
            refine p_inline_k hs (op := (Op.call { callee := (Callee.value (Operand.tmp 38)), args := #[(Operand.tmp 6), (Operand.tmp 43), (Operand.tmp 44), (Operand.tmp 46)], argTypes := #[52, 22, 22, 4] })) (ty := 46) (dst := some 47) (g := none) (by kernel_rfl) (by kernel_rfl) (by kernel_rfl) (f := 58) (args := #[.pointer (some ad29), .int .u32 (vx 0 a0.R (a1.B : Int).toNat), .int .u32 v55, .bool a1.U, .pointer (some (⟨g63, 0, none⟩ : Addr))]) (by kernel_rfl) (fun KR170 hKR170 => ?_)
            refine go_fn Try.func58 rfl 15 Try.ntmps58 [(0, .pointer (some ad29)), (1, .int .u32 (vx 0 a0.R (a1.B : Int).toNat)), (2, .int .u32 v55), (3, .bool a1.U), (4, .pointer (some (⟨g63, 0, none⟩ : Addr)))] (by kernel_rfl) rfl ?_
            clear hs; intro a hs
            refine go_seq_k fun K171 hK171 => ?_
            refine go_region ?_
            refine go_pvs 0 2 [1, 2, 4] hs (L' := [(1, .int .u32 (vx 0 a0.R (a1.B : Int).toNat)), (2, .int .u32 v55), (4, .pointer (some (⟨g63, 0, none⟩ : Addr)))]) (by kernel_rfl) ?_ rfl
            clear hs; intro a hs
            refine go_end (by kernel_rfl) ?_
            refine hK171 _ _ ?_
            refine go_seq_k fun K172 hK172 => ?_
            refine go_region ?_
            refine go_run hs (op := (Op.load 67 (Operand.tmp 4))) (ty := 67) (dst := some 11) (g := none) (by kernel_rfl) (by kernel_rfl) (by kernel_rfl) (x_bld (g := g63) (o := 0) (p := (⟨g63, 0, none⟩ : Addr)) (v := .func (.func 38) #[] #[]) (hw.up 4) (by kernel_rfl) rfl (by kernel_rfl) (by kernel_rfl)) [1, 2, 11] (L' := [(1, .int .u32 (vx 0 a0.R (a1.B : Int).toNat)), (2, .int .u32 v55), (11, .func (.func 38) #[] #[])]) (by kernel_rfl) ?_
            clear hs; intro a hs
            refine go_pvs 1 3 [11, 12, 13] hs (L' := [(11, .func (.func 38) #[] #[]), (12, .int .u32 (vx 0 a0.R (a1.B : Int).toNat)), (13, .int .u32 v55)]) (by kernel_rfl) ?_ rfl
            clear hs; intro a hs
            refine go_inline_k hs (op := (Op.call { callee := (Callee.value (Operand.tmp 11)), args := #[(Operand.tmp 12), (Operand.tmp 13)], argTypes := #[22, 22] })) (ty := 22) (dst := some 14) (g := none) (by kernel_rfl) (by kernel_rfl) (by kernel_rfl) (f := 38) (args := #[.int .u32 (vx 0 a0.R (a1.B : Int).toNat), .int .u32 v55]) (by kernel_rfl) (fun KR173 hKR173 => ?_)
            refine go_fn Try.func38 rfl 8 Try.ntmps38 [(0, .int .u32 (vx 0 a0.R (a1.B : Int).toNat)), (1, .int .u32 v55)] (by kernel_rfl) rfl ?_
            clear hs; intro a hs
            refine go_seq_k fun K174 hK174 => ?_
            refine go_region ?_
            refine go_pvs 0 1 [0, 1] hs (L' := [(0, .int .u32 (vx 0 a0.R (a1.B : Int).toNat)), (1, .int .u32 v55)]) (by kernel_rfl) ?_ rfl
            clear hs; intro a hs
            refine go_end (by kernel_rfl) ?_
            refine hK174 _ _ ?_
            refine go_seq_k fun K175 hK175 => ?_
            refine go_region ?_
            refine go_pvs 0 4 [4] hs (L' := [(4, .int .u32 (bor .u32 (vx 0 a0.R (a1.B : Int).toNat) v55))]) (by kernel_rfl) ?_ rfl
            clear hs; intro a hs
            refine go_end (by kernel_rfl) ?_
            refine hK175 _ _ ?_
            refine wp_ret ?_
            refine ret1 (t := 4) (v := .int .u32 (bor .u32 (vx 0 a0.R (a1.B : Int).toNat) v55)) hs (by kernel_rfl) (by kernel_rfl) ?_
            refine ⟨_, rfl, ?_⟩
            refine hKR173 _ _ ?_
            intro a hs1
            have hs : Slots a _ [(14, .int .u32 (bor .u32 (vx 0 a0.R (a1.B : Int).toNat) v55))] := hs1.keep [14] (by kernel_rfl)
            clear hs1
            refine go_pvs 4 6 [9, 10] hs (L' := [(9, .int .u32 (bor .u32 (vx 0 a0.R (a1.B : Int).toNat) v55)), (10, .bool true)]) (by kernel_rfl) ?_ rfl
            clear hs; intro a hs
            refine go_end (by kernel_rfl) ?_
            refine hK172 _ _ ?_
            refine wp_ret ?_
            refine ret2 (t1 := 9) (v1 := .int .u32 (bor .u32 (vx 0 a0.R (a1.B : Int).toNat) v55)) (t2 := 10) (v2 := .bool true) hs (by kernel_rfl) (by kernel_rfl) (by kernel_rfl) ?_
            refine ⟨_, rfl, ?_⟩
            refine hKR170 _ _ ?_
            intro a hs1
            have hs : Slots a _ [(2, .pointer (some ad2)), (3, .pointer (some ad6)), (4, .pointer (some ad10)), (6, .pointer (some ad29)), (47, .tuple #[.int .u32 (bor .u32 (vx 0 a0.R (a1.B : Int).toNat) v55), .bool true])] := hs1.keep [2, 3, 4, 6, 47] (by kernel_rfl)
            clear hs1
            refine p_last ?_
            refine e_pvs [14, 15, 16, 17, 18] [] [2, 3, 4, 6, 7, 9] hs (L' := [(2, .pointer (some ad2)), (3, .pointer (some ad6)), (4, .pointer (some ad10)), (6, .pointer (some ad29)), (7, .int .u32 (bor .u32 (vx 0 a0.R (a1.B : Int).toNat) v55)), (9, .bool true)]) (by kernel_rfl) ?_ (by kernel_rfl)
            clear hs; intro a hs
            refine e_end ?_
            refine hK57 _ _ ?_
            refine go_seq_k fun K176 hK176 => ?_
            refine go_region ?_
            refine go_pvs 0 2 [2, 3, 4, 6, 7, 51] hs (L' := [(2, .pointer (some ad2)), (3, .pointer (some ad6)), (4, .pointer (some ad10)), (6, .pointer (some ad29)), (7, .int .u32 (bor .u32 (vx 0 a0.R (a1.B : Int).toNat) v55)), (51, .bool false)]) (by kernel_rfl) ?_ rfl
            clear hs; intro a hs
            refine go_end (by kernel_rfl) ?_
            refine hK176 _ _ ?_
            refine go_cond hs false (by kernel_rfl) (fun hc => ?_) (fun hc => ?_)
            ·cases hc
            ·skip
             refine wp_skip ?_
             refine ib_norm ?_
             replace hw := hw.up 24
             replace hw := hw.up 24
             replace hw := hw.up 24
             replace hw := hw.up 24
             replace hw := hw.only 4
             exact hJ7 (a0 : Sapi_Regs) (bor .u32 (vx 0 a0.R (a1.B : Int).toNat) v55) _ _ (hs.keep [3, 4, 6, 7] (by kernel_rfl)) hw H
           ·replace H := ite_f H hk169
            by_cases hk177 : a1.Op = 7
            ·replace H := ite_t H hk177
             replace hs := (congrArg (fun z => Slots a 69 [(2, .pointer (some ad2)), (3, .pointer (some ad6)), (4, .pointer (some ad10)), (6, .pointer (some ad29)), (34, .agg #[.func (.func 35) #[] #[], .func (.func 58) #[] #[.pointer (some (⟨g78, 0, none⟩ : Addr))], .func (.func 58) #[] #[.pointer (some (⟨g74, 0, none⟩ : Addr))], .func (.func 58) #[] #[.pointer (some (⟨g70, 0, none⟩ : Addr))], .func (.func 58) #[] #[.pointer (some (⟨g67, 0, none⟩ : Addr))], .func (.func 58) #[] #[.pointer (some (⟨g65, 0, none⟩ : Addr))], .func (.func 58) #[] #[.pointer (some (⟨g63, 0, none⟩ : Addr))], .func (.func 58) #[] #[.pointer (some (⟨g61, 0, none⟩ : Addr))], .func (.func 40) #[] #[], .func (.func 42) #[] #[], .func (.func 44) #[] #[], .func (.func 46) #[] #[]]), (36, .int .i64 z), (43, .int .u32 (vx 0 a0.R (a1.B : Int).toNat)), (44, .int .u32 v55), (46, .bool a1.U)]) hk177).mp hs
             replace hs : Slots a 69 [(2, .pointer (some ad2)), (3, .pointer (some ad6)), (4, .pointer (some ad10)), (6, .pointer (some ad29)), (34, .agg #[.func (.func 35) #[] #[], .func (.func 58) #[] #[.pointer (some (⟨g78, 0, none⟩ : Addr))], .func (.func 58) #[] #[.pointer (some (⟨g74, 0, none⟩ : Addr))], .func (.func 58) #[] #[.pointer (some (⟨g70, 0, none⟩ : Addr))], .func (.func 58) #[] #[.pointer (some (⟨g67, 0, none⟩ : Addr))], .func (.func 58) #[] #[.pointer (some (⟨g65, 0, none⟩ : Addr))], .func (.func 58) #[] #[.pointer (some (⟨g63, 0, none⟩ : Addr))], .func (.func 58) #[] #[.pointer (some (⟨g61, 0, none⟩ : Addr))], .func (.func 40) #[] #[], .func (.func 42) #[] #[], .func (.func 44) #[] #[], .func (.func 46) #[] #[]]), (36, .int .i64 7), (43, .int .u32 (vx 0 a0.R (a1.B : Int).toNat)), (44, .int .u32 v55), (46, .bool a1.U)] := hs
             refine s_pvs [3, 4] [] [2, 3, 4, 6, 38, 43, 44, 46] hbq hs (L' := [(2, .pointer (some ad2)), (3, .pointer (some ad6)), (4, .pointer (some ad10)), (6, .pointer (some ad29)), (38, .func (.func 58) #[] #[.pointer (some (⟨g61, 0, none⟩ : Addr))]), (43, .int .u32 (vx 0 a0.R (a1.B : Int).toNat)), (44, .int .u32 v55), (46, .bool a1.U)]) (by kernel_rfl) ?_ (by kernel_rfl)
             clear hs; intro a hs
             refine s_end ?_
             refine p_inline_k hs (op := (Op.call { callee := (Callee.value (Operand.tmp 38)), args := #[(Operand.tmp 6), (Operand.tmp 43), (Operand.tmp 44), (Operand.tmp 46)], argTypes := #[52, 22, 22, 4] })) (ty := 46) (dst := some 47) (g := none) (by kernel_rfl) (by kernel_rfl) (by kernel_rfl) (f := 58) (args := #[.pointer (some ad29), .int .u32 (vx 0 a0.R (a1.B : Int).toNat), .int .u32 v55, .bool a1.U, .pointer (some (⟨g61, 0, none⟩ : Addr))]) (by kernel_rfl) (fun KR178 hKR178 => ?_)
             refine go_fn Try.func58 rfl 15 Try.ntmps58 [(0, .pointer (some ad29)), (1, .int .u32 (vx 0 a0.R (a1.B : Int).toNat)), (2, .int .u32 v55), (3, .bool a1.U), (4, .pointer (some (⟨g61, 0, none⟩ : Addr)))] (by kernel_rfl) rfl ?_
             clear hs; intro a hs
             refine go_seq_k fun K179 hK179 => ?_
             refine go_region ?_
             refine go_pvs 0 2 [1, 2, 4] hs (L' := [(1, .int .u32 (vx 0 a0.R (a1.B : Int).toNat)), (2, .int .u32 v55), (4, .pointer (some (⟨g61, 0, none⟩ : Addr)))]) (by kernel_rfl) ?_ rfl
             clear hs; intro a hs
             refine go_end (by kernel_rfl) ?_
             refine hK179 _ _ ?_
             refine go_seq_k fun K180 hK180 => ?_
             refine go_region ?_
             refine go_run hs (op := (Op.load 67 (Operand.tmp 4))) (ty := 67) (dst := some 11) (g := none) (by kernel_rfl) (by kernel_rfl) (by kernel_rfl) (x_bld (g := g61) (o := 0) (p := (⟨g61, 0, none⟩ : Addr)) (v := .func (.func 39) #[] #[]) (hw.up 2) (by kernel_rfl) rfl (by kernel_rfl) (by kernel_rfl)) [1, 2, 11] (L' := [(1, .int .u32 (vx 0 a0.R (a1.B : Int).toNat)), (2, .int .u32 v55), (11, .func (.func 39) #[] #[])]) (by kernel_rfl) ?_
             clear hs; intro a hs
             refine go_pvs 1 3 [11, 12, 13] hs (L' := [(11, .func (.func 39) #[] #[]), (12, .int .u32 (vx 0 a0.R (a1.B : Int).toNat)), (13, .int .u32 v55)]) (by kernel_rfl) ?_ rfl
             clear hs; intro a hs
             refine go_inline_k hs (op := (Op.call { callee := (Callee.value (Operand.tmp 11)), args := #[(Operand.tmp 12), (Operand.tmp 13)], argTypes := #[22, 22] })) (ty := 22) (dst := some 14) (g := none) (by kernel_rfl) (by kernel_rfl) (by kernel_rfl) (f := 39) (args := #[.int .u32 (vx 0 a0.R (a1.B : Int).toNat), .int .u32 v55]) (by kernel_rfl) (fun KR181 hKR181 => ?_)
             refine go_fn Try.func39 rfl 8 Try.ntmps39 [(0, .int .u32 (vx 0 a0.R (a1.B : Int).toNat)), (1, .int .u32 v55)] (by kernel_rfl) rfl ?_
             clear hs; intro a hs
             refine go_seq_k fun K182 hK182 => ?_
             refine go_region ?_
             refine go_pvs 0 1 [0, 1] hs (L' := [(0, .int .u32 (vx 0 a0.R (a1.B : Int).toNat)), (1, .int .u32 v55)]) (by kernel_rfl) ?_ rfl
             clear hs; intro a hs
             refine go_end (by kernel_rfl) ?_
             refine hK182 _ _ ?_
             refine go_seq_k fun K183 hK183 => ?_
             refine go_region ?_
             refine go_pvs 0 4 [4] hs (L' := [(4, .int .u32 (bxor .u32 (vx 0 a0.R (a1.B : Int).toNat) v55))]) (by kernel_rfl) ?_ rfl
             clear hs; intro a hs
             refine go_end (by kernel_rfl) ?_
             refine hK183 _ _ ?_
             refine wp_ret ?_
             refine ret1 (t := 4) (v := .int .u32 (bxor .u32 (vx 0 a0.R (a1.B : Int).toNat) v55)) hs (by kernel_rfl) (by kernel_rfl) ?_
             refine ⟨_, rfl, ?_⟩
             refine hKR181 _ _ ?_
             intro a hs1
             have hs : Slots a _ [(14, .int .u32 (bxor .u32 (vx 0 a0.R (a1.B : Int).toNat) v55))] := hs1.keep [14] (by kernel_rfl)
             clear hs1
             refine go_pvs 4 6 [9, 10] hs (L' := [(9, .int .u32 (bxor .u32 (vx 0 a0.R (a1.B : Int).toNat) v55)), (10, .bool true)]) (by kernel_rfl) ?_ rfl
             clear hs; intro a hs
             refine go_end (by kernel_rfl) ?_
             refine hK180 _ _ ?_
             refine wp_ret ?_
             refine ret2 (t1 := 9) (v1 := .int .u32 (bxor .u32 (vx 0 a0.R (a1.B : Int).toNat) v55)) (t2 := 10) (v2 := .bool true) hs (by kernel_rfl) (by kernel_rfl) (by kernel_rfl) ?_
             refine ⟨_, rfl, ?_⟩
             refine hKR178 _ _ ?_
             intro a hs1
             have hs : Slots a _ [(2, .pointer (some ad2)), (3, .pointer (some ad6)), (4, .pointer (some ad10)), (6, .pointer (some ad29)), (47, .tuple #[.int .u32 (bxor .u32 (vx 0 a0.R (a1.B : Int).toNat) v55), .bool true])] := hs1.keep [2, 3, 4, 6, 47] (by kernel_rfl)
             clear hs1
             refine p_last ?_
             refine e_pvs [14, 15, 16, 17, 18] [] [2, 3, 4, 6, 7, 9] hs (L' := [(2, .pointer (some ad2)), (3, .pointer (some ad6)), (4, .pointer (some ad10)), (6, .pointer (some ad29)), (7, .int .u32 (bxor .u32 (vx 0 a0.R (a1.B : Int).toNat) v55)), (9, .bool true)]) (by kernel_rfl) ?_ (by kernel_rfl)
             clear hs; intro a hs
             refine e_end ?_
             refine hK57 _ _ ?_
             refine go_seq_k fun K184 hK184 => ?_
             refine go_region ?_
             refine go_pvs 0 2 [2, 3, 4, 6, 7, 51] hs (L' := [(2, .pointer (some ad2)), (3, .pointer (some ad6)), (4, .pointer (some ad10)), (6, .pointer (some ad29)), (7, .int .u32 (bxor .u32 (vx 0 a0.R (a1.B : Int).toNat) v55)), (51, .bool false)]) (by kernel_rfl) ?_ rfl
             clear hs; intro a hs
             refine go_end (by kernel_rfl) ?_
             refine hK184 _ _ ?_
             refine go_cond hs false (by kernel_rfl) (fun hc => ?_) (fun hc => ?_)
             ·cases hc
             ·skip
              refine wp_skip ?_
              refine ib_norm ?_
              replace hw := hw.up 24
              replace hw := hw.up 24
              replace hw := hw.up 24
              replace hw := hw.up 24
              replace hw := hw.only 4
              exact hJ7 (a0 : Sapi_Regs) (bxor .u32 (vx 0 a0.R (a1.B : Int).toNat) v55) _ _ (hs.keep [3, 4, 6, 7] (by kernel_rfl)) hw H
            ·replace H := ite_f H hk177
             by_cases hk185 : a1.Op = 8
             ·replace H := ite_t H hk185
              replace hs := (congrArg (fun z => Slots a 69 [(2, .pointer (some ad2)), (3, .pointer (some ad6)), (4, .pointer (some ad10)), (6, .pointer (some ad29)), (34, .agg #[.func (.func 35) #[] #[], .func (.func 58) #[] #[.pointer (some (⟨g78, 0, none⟩ : Addr))], .func (.func 58) #[] #[.pointer (some (⟨g74, 0, none⟩ : Addr))], .func (.func 58) #[] #[.pointer (some (⟨g70, 0, none⟩ : Addr))], .func (.func 58) #[] #[.pointer (some (⟨g67, 0, none⟩ : Addr))], .func (.func 58) #[] #[.pointer (some (⟨g65, 0, none⟩ : Addr))], .func (.func 58) #[] #[.pointer (some (⟨g63, 0, none⟩ : Addr))], .func (.func 58) #[] #[.pointer (some (⟨g61, 0, none⟩ : Addr))], .func (.func 40) #[] #[], .func (.func 42) #[] #[], .func (.func 44) #[] #[], .func (.func 46) #[] #[]]), (36, .int .i64 z), (43, .int .u32 (vx 0 a0.R (a1.B : Int).toNat)), (44, .int .u32 v55), (46, .bool a1.U)]) hk185).mp hs
              replace hs : Slots a 69 [(2, .pointer (some ad2)), (3, .pointer (some ad6)), (4, .pointer (some ad10)), (6, .pointer (some ad29)), (34, .agg #[.func (.func 35) #[] #[], .func (.func 58) #[] #[.pointer (some (⟨g78, 0, none⟩ : Addr))], .func (.func 58) #[] #[.pointer (some (⟨g74, 0, none⟩ : Addr))], .func (.func 58) #[] #[.pointer (some (⟨g70, 0, none⟩ : Addr))], .func (.func 58) #[] #[.pointer (some (⟨g67, 0, none⟩ : Addr))], .func (.func 58) #[] #[.pointer (some (⟨g65, 0, none⟩ : Addr))], .func (.func 58) #[] #[.pointer (some (⟨g63, 0, none⟩ : Addr))], .func (.func 58) #[] #[.pointer (some (⟨g61, 0, none⟩ : Addr))], .func (.func 40) #[] #[], .func (.func 42) #[] #[], .func (.func 44) #[] #[], .func (.func 46) #[] #[]]), (36, .int .i64 8), (43, .int .u32 (vx 0 a0.R (a1.B : Int).toNat)), (44, .int .u32 v55), (46, .bool a1.U)] := hs
              refine s_pvs [3, 4] [] [2, 3, 4, 6, 38, 43, 44, 46] hbq hs (L' := [(2, .pointer (some ad2)), (3, .pointer (some ad6)), (4, .pointer (some ad10)), (6, .pointer (some ad29)), (38, .func (.func 40) #[] #[]), (43, .int .u32 (vx 0 a0.R (a1.B : Int).toNat)), (44, .int .u32 v55), (46, .bool a1.U)]) (by kernel_rfl) ?_ (by kernel_rfl)
              clear hs; intro a hs
              refine s_end ?_
              refine p_inline_k hs (op := (Op.call { callee := (Callee.value (Operand.tmp 38)), args := #[(Operand.tmp 6), (Operand.tmp 43), (Operand.tmp 44), (Operand.tmp 46)], argTypes := #[52, 22, 22, 4] })) (ty := 46) (dst := some 47) (g := none) (by kernel_rfl) (by kernel_rfl) (by kernel_rfl) (f := 40) (args := #[.pointer (some ad29), .int .u32 (vx 0 a0.R (a1.B : Int).toNat), .int .u32 v55, .bool a1.U]) (by kernel_rfl) (fun KR186 hKR186 => ?_)
              refine go_fn Try.func40 rfl 31 Try.ntmps40 [(0, .pointer (some ad29)), (1, .int .u32 (vx 0 a0.R (a1.B : Int).toNat)), (2, .int .u32 v55), (3, .bool a1.U)] (by kernel_rfl) rfl ?_
              clear hs; intro a hs
              refine go_seq_k fun K187 hK187 => ?_
              refine go_region ?_
              refine go_pvs 0 2 [0, 1, 2, 3] hs (L' := [(0, .pointer (some ad29)), (1, .int .u32 (vx 0 a0.R (a1.B : Int).toNat)), (2, .int .u32 v55), (3, .bool a1.U)]) (by kernel_rfl) ?_ rfl
              clear hs; intro a hs
              refine go_end (by kernel_rfl) ?_
              refine hK187 _ _ ?_
              refine go_seq_k fun K188 hK188 => ?_
              have hJ5 : ∀ (v212 : Sapi_Regs) (v213 : Int) (a : Act) (w : World), Slots a 31 [(8, .int .u32 v213)] → St [] w0 w [box g59 50 [.func (.func 35) #[] #[], .func (.func 58) #[] #[.pointer (some (⟨g78, 0, none⟩ : Addr))], .func (.func 58) #[] #[.pointer (some (⟨g74, 0, none⟩ : Addr))], .func (.func 58) #[] #[.pointer (some (⟨g70, 0, none⟩ : Addr))], .func (.func 58) #[] #[.pointer (some (⟨g67, 0, none⟩ : Addr))], .func (.func 58) #[] #[.pointer (some (⟨g65, 0, none⟩ : Addr))], .func (.func 58) #[] #[.pointer (some (⟨g63, 0, none⟩ : Addr))], .func (.func 58) #[] #[.pointer (some (⟨g61, 0, none⟩ : Addr))], .func (.func 40) #[] #[], .func (.func 42) #[] #[], .func (.func 44) #[] #[], .func (.func 46) #[] #[]], box g60 49 [.func (.func 58) #[] #[.pointer (some (⟨g61, 0, none⟩ : Addr))]], box g61 67 [.func (.func 39) #[] #[]], box g62 49 [.func (.func 58) #[] #[.pointer (some (⟨g63, 0, none⟩ : Addr))]], box g63 67 [.func (.func 38) #[] #[]], box g64 49 [.func (.func 58) #[] #[.pointer (some (⟨g65, 0, none⟩ : Addr))]], box g65 67 [.func (.func 37) #[] #[]], box g66 49 [.func (.func 58) #[] #[.pointer (some (⟨g67, 0, none⟩ : Addr))]], box g67 67 [.func (.func 36) #[] #[]], box g68 49 [.func (.func 58) #[] #[.pointer (some (⟨g70, 0, none⟩ : Addr))]], box g69 49 [.func (.func 58) #[] #[.pointer (some (⟨g70, 0, none⟩ : Addr))]], box g70 67 [.func (.func 33) #[] #[.pointer (some ad71)]], own 3 (eI .i64) (some ad71) 1 [3], box g72 49 [.func (.func 58) #[] #[.pointer (some (⟨g74, 0, none⟩ : Addr))]], box g73 49 [.func (.func 58) #[] #[.pointer (some (⟨g74, 0, none⟩ : Addr))]], box g74 67 [.func (.func 33) #[] #[.pointer (some ad75)]], own 3 (eI .i64) (some ad75) 1 [2], box g76 49 [.func (.func 58) #[] #[.pointer (some (⟨g78, 0, none⟩ : Addr))]], box g77 49 [.func (.func 58) #[] #[.pointer (some (⟨g78, 0, none⟩ : Addr))]], box g78 67 [.func (.func 33) #[] #[.pointer (some ad79)]], own 3 (eI .i64) (some ad79) 1 [1], own 25 eSapi_Regs (some ad29) 1 [v212], own 25 eSapi_Regs (some ad10) 1 [(⟨(Vector.replicate 16 0), 0, false, false, false, false⟩ : Sapi_Regs)], own 27 eSapi_Instr (some ad6) 1 [a1], own 25 eSapi_Regs (some ad2) 1 [a0]] → alu_Do.j5 a1 v212 v213 = some r → K188 a w := by
               intro v212 v213 a w hs hw H
               unfold alu_Do.j5 at H
               refine hK188 _ _ ?_
               refine go_seq_k fun K214 hK214 => ?_
               refine go_region ?_
               refine go_pvs 0 3 [8, 9] hs (L' := [(8, .int .u32 v213), (9, .bool true)]) (by kernel_rfl) ?_ rfl
               clear hs; intro a hs
               refine go_end (by kernel_rfl) ?_
               refine hK214 _ _ ?_
               refine wp_ret ?_
               refine ret2 (t1 := 8) (v1 := .int .u32 v213) (t2 := 9) (v2 := .bool true) hs (by kernel_rfl) (by kernel_rfl) (by kernel_rfl) ?_
               refine ⟨_, rfl, ?_⟩
               refine hKR186 _ _ ?_
               intro a hs1
               have hs : Slots a _ [(2, .pointer (some ad2)), (3, .pointer (some ad6)), (4, .pointer (some ad10)), (6, .pointer (some ad29)), (47, .tuple #[.int .u32 v213, .bool true])] := hs1.keep [2, 3, 4, 6, 47] (by kernel_rfl)
               clear hs1
               refine p_last ?_
               refine e_pvs [14, 15, 16, 17, 18] [] [2, 3, 4, 6, 7, 9] hs (L' := [(2, .pointer (some ad2)), (3, .pointer (some ad6)), (4, .pointer (some ad10)), (6, .pointer (some ad29)), (7, .int .u32 v213), (9, .bool true)]) (by kernel_rfl) ?_ (by kernel_rfl)
               clear hs; intro a hs
               refine e_end ?_
               refine hK57 _ _ ?_
               refine go_seq_k fun K215 hK215 => ?_
               refine go_region ?_
               refine go_pvs 0 2 [2, 3, 4, 6, 7, 51] hs (L' := [(2, .pointer (some ad2)), (3, .pointer (some ad6)), (4, .pointer (some ad10)), (6, .pointer (some ad29)), (7, .int .u32 v213), (51, .bool false)]) (by kernel_rfl) ?_ rfl
               clear hs; intro a hs
               refine go_end (by kernel_rfl) ?_
               refine hK215 _ _ ?_
               refine go_cond hs false (by kernel_rfl) (fun hc => ?_) (fun hc => ?_)
               ·cases hc
               ·skip
                refine wp_skip ?_
                refine ib_norm ?_
                replace hw := hw.up 24
                replace hw := hw.up 24
                replace hw := hw.up 24
                replace hw := hw.up 24
                replace hw := hw.only 4
                exact hJ7 v212 v213 _ _ (hs.keep [3, 4, 6, 7] (by kernel_rfl)) hw H
              refine go_region ?_
              refine go_pvs 0 6 [0, 11, 12, 13, 14, 16] hs (L' := [(0, .pointer (some ad29)), (11, .pointer (some ad29)), (12, .pointer (some ad29)), (13, .int .u32 (vx 0 a0.R (a1.B : Int).toNat)), (14, .int .u32 v55), (16, .bool a1.U)]) (by kernel_rfl) ?_ rfl
              clear hs; intro a hs
              cases hb189 : a1.U
              ·replace H := ite_f H (ff hb189)
               rw [hb189] at hs
               refine go_pvs 6 11 [11, 12, 13, 14, 21] hs (L' := [(11, .pointer (some ad29)), (12, .pointer (some ad29)), (13, .int .u32 (vx 0 a0.R (a1.B : Int).toNat)), (14, .int .u32 v55), (21, .bool false)]) (by kernel_rfl) ?_ rfl
               clear hs; intro a hs
               obtain ⟨⟨t191, t192, t193⟩, hx194, H⟩ := bind_some H
               refine go_call hs (op := (Op.call { callee := (Callee.value (Operand.func 41)), args := #[(Operand.tmp 13), (Operand.tmp 14), (Operand.tmp 21)], argTypes := #[22, 22, 4] })) (ty := 55) (dst := some 22) (g := none) (by kernel_rfl) (by kernel_rfl) (by kernel_rfl) (f := 41) (args := #[.int .u32 (vx 0 a0.R (a1.B : Int).toNat), .int .u32 v55, .bool false]) (by kernel_rfl) (word_Add.calls (vx 0 a0.R (a1.B : Int).toNat) v55 false (t191, t192, t193) _ hx194) ?_
               rintro e wd195 ⟨rfl, hw196⟩
               refine ⟨_, rfl, ?_⟩
               replace hw := hw.call hw196
               intro a hs1
               replace hs : Slots a 31 [(11, .pointer (some ad29)), (12, .pointer (some ad29)), (22, .tuple #[.int .u32 t191, .bool t192, .bool t193])] := hs1.keep [11, 12, 22] (by kernel_rfl)
               clear hs1
               refine go_pvs 12 19 [8, 12, 24, 25, 27] hs (L' := [(8, .int .u32 t191), (12, .pointer (some ad29)), (24, .bool t192), (25, .bool t193), (27, .pointer (some ((ad29 : Addr).add 19)))]) (by kernel_rfl) ?_ rfl
               clear hs; intro a hs
               replace hw := hw.up 21
               obtain ⟨wd197, hx198, hw⟩ := x_put (P := Try.prog) (ty := 0) (t := 4) (x := (Operand.tmp 27)) (y := (Operand.tmp 24)) (off := 19) (p := (ad29 : Addr).add 19) (v := .bool t192) (vs := [.bool t192]) (i := 0) (e' := (({ (a0 : Sapi_Regs) with C := t192 } : Sapi_Regs) : Sapi_Regs)) hs hw rfl (one_ok (a0 : Sapi_Regs)).1 (one_ok (a0 : Sapi_Regs)).2 (by kernel_rfl) (one_off _ _ _) (by kernel_rfl) rfl (by kernel_rfl) (Nat.le_of_ble_eq_true rfl) (by simp [Value.oneCell']) (by kernel_rfl)
               refine go_unit hs (op := (Op.store 4 (Operand.tmp 27) (Operand.tmp 24))) (ty := 0) (dst := none) (g := none) (by kernel_rfl) (by kernel_rfl) (by kernel_rfl) hx198 [8, 12, 25] (L' := [(8, .int .u32 t191), (12, .pointer (some ad29)), (25, .bool t193)]) (by kernel_rfl) ?_
               clear hs; intro a hs
               replace hw : St [] w0 wd197 [own 25 eSapi_Regs (some ad29) 1 [({ (a0 : Sapi_Regs) with C := t192 } : Sapi_Regs)], box g59 50 [.func (.func 35) #[] #[], .func (.func 58) #[] #[.pointer (some (⟨g78, 0, none⟩ : Addr))], .func (.func 58) #[] #[.pointer (some (⟨g74, 0, none⟩ : Addr))], .func (.func 58) #[] #[.pointer (some (⟨g70, 0, none⟩ : Addr))], .func (.func 58) #[] #[.pointer (some (⟨g67, 0, none⟩ : Addr))], .func (.func 58) #[] #[.pointer (some (⟨g65, 0, none⟩ : Addr))], .func (.func 58) #[] #[.pointer (some (⟨g63, 0, none⟩ : Addr))], .func (.func 58) #[] #[.pointer (some (⟨g61, 0, none⟩ : Addr))], .func (.func 40) #[] #[], .func (.func 42) #[] #[], .func (.func 44) #[] #[], .func (.func 46) #[] #[]], box g60 49 [.func (.func 58) #[] #[.pointer (some (⟨g61, 0, none⟩ : Addr))]], box g61 67 [.func (.func 39) #[] #[]], box g62 49 [.func (.func 58) #[] #[.pointer (some (⟨g63, 0, none⟩ : Addr))]], box g63 67 [.func (.func 38) #[] #[]], box g64 49 [.func (.func 58) #[] #[.pointer (some (⟨g65, 0, none⟩ : Addr))]], box g65 67 [.func (.func 37) #[] #[]], box g66 49 [.func (.func 58) #[] #[.pointer (some (⟨g67, 0, none⟩ : Addr))]], box g67 67 [.func (.func 36) #[] #[]], box g68 49 [.func (.func 58) #[] #[.pointer (some (⟨g70, 0, none⟩ : Addr))]], box g69 49 [.func (.func 58) #[] #[.pointer (some (⟨g70, 0, none⟩ : Addr))]], box g70 67 [.func (.func 33) #[] #[.pointer (some ad71)]], own 3 (eI .i64) (some ad71) 1 [3], box g72 49 [.func (.func 58) #[] #[.pointer (some (⟨g74, 0, none⟩ : Addr))]], box g73 49 [.func (.func 58) #[] #[.pointer (some (⟨g74, 0, none⟩ : Addr))]], box g74 67 [.func (.func 33) #[] #[.pointer (some ad75)]], own 3 (eI .i64) (some ad75) 1 [2], box g76 49 [.func (.func 58) #[] #[.pointer (some (⟨g78, 0, none⟩ : Addr))]], box g77 49 [.func (.func 58) #[] #[.pointer (some (⟨g78, 0, none⟩ : Addr))]], box g78 67 [.func (.func 33) #[] #[.pointer (some ad79)]], own 3 (eI .i64) (some ad79) 1 [1], own 25 eSapi_Regs (some ad10) 1 [(⟨(Vector.replicate 16 0), 0, false, false, false, false⟩ : Sapi_Regs)], own 27 eSapi_Instr (some ad6) 1 [a1], own 25 eSapi_Regs (some ad2) 1 [a0]] := hw
               refine go_pvs 20 22 [8, 25, 29] hs (L' := [(8, .int .u32 t191), (25, .bool t193), (29, .pointer (some ((ad29 : Addr).add 20)))]) (by kernel_rfl) ?_ rfl
               clear hs; intro a hs
               obtain ⟨wd199, hx200, hw⟩ := x_put (P := Try.prog) (ty := 0) (t := 4) (x := (Operand.tmp 29)) (y := (Operand.tmp 25)) (off := 20) (p := (ad29 : Addr).add 20) (v := .bool t193) (vs := [.bool t193]) (i := 0) (e' := (({ ({ (a0 : Sapi_Regs) with C := t192 } : Sapi_Regs) with V := t193 } : Sapi_Regs) : Sapi_Regs)) hs hw rfl (one_ok ({ (a0 : Sapi_Regs) with C := t192 } : Sapi_Regs)).1 (one_ok ({ (a0 : Sapi_Regs) with C := t192 } : Sapi_Regs)).2 (by kernel_rfl) (one_off _ _ _) (by kernel_rfl) rfl (by kernel_rfl) (Nat.le_of_ble_eq_true rfl) (by simp [Value.oneCell']) (by kernel_rfl)
               refine go_unit hs (op := (Op.store 4 (Operand.tmp 29) (Operand.tmp 25))) (ty := 0) (dst := none) (g := none) (by kernel_rfl) (by kernel_rfl) (by kernel_rfl) hx200 [8] (L' := [(8, .int .u32 t191)]) (by kernel_rfl) ?_
               clear hs; intro a hs
               replace hw : St [] w0 wd199 [own 25 eSapi_Regs (some ad29) 1 [({ ({ (a0 : Sapi_Regs) with C := t192 } : Sapi_Regs) with V := t193 } : Sapi_Regs)], box g59 50 [.func (.func 35) #[] #[], .func (.func 58) #[] #[.pointer (some (⟨g78, 0, none⟩ : Addr))], .func (.func 58) #[] #[.pointer (some (⟨g74, 0, none⟩ : Addr))], .func (.func 58) #[] #[.pointer (some (⟨g70, 0, none⟩ : Addr))], .func (.func 58) #[] #[.pointer (some (⟨g67, 0, none⟩ : Addr))], .func (.func 58) #[] #[.pointer (some (⟨g65, 0, none⟩ : Addr))], .func (.func 58) #[] #[.pointer (some (⟨g63, 0, none⟩ : Addr))], .func (.func 58) #[] #[.pointer (some (⟨g61, 0, none⟩ : Addr))], .func (.func 40) #[] #[], .func (.func 42) #[] #[], .func (.func 44) #[] #[], .func (.func 46) #[] #[]], box g60 49 [.func (.func 58) #[] #[.pointer (some (⟨g61, 0, none⟩ : Addr))]], box g61 67 [.func (.func 39) #[] #[]], box g62 49 [.func (.func 58) #[] #[.pointer (some (⟨g63, 0, none⟩ : Addr))]], box g63 67 [.func (.func 38) #[] #[]], box g64 49 [.func (.func 58) #[] #[.pointer (some (⟨g65, 0, none⟩ : Addr))]], box g65 67 [.func (.func 37) #[] #[]], box g66 49 [.func (.func 58) #[] #[.pointer (some (⟨g67, 0, none⟩ : Addr))]], box g67 67 [.func (.func 36) #[] #[]], box g68 49 [.func (.func 58) #[] #[.pointer (some (⟨g70, 0, none⟩ : Addr))]], box g69 49 [.func (.func 58) #[] #[.pointer (some (⟨g70, 0, none⟩ : Addr))]], box g70 67 [.func (.func 33) #[] #[.pointer (some ad71)]], own 3 (eI .i64) (some ad71) 1 [3], box g72 49 [.func (.func 58) #[] #[.pointer (some (⟨g74, 0, none⟩ : Addr))]], box g73 49 [.func (.func 58) #[] #[.pointer (some (⟨g74, 0, none⟩ : Addr))]], box g74 67 [.func (.func 33) #[] #[.pointer (some ad75)]], own 3 (eI .i64) (some ad75) 1 [2], box g76 49 [.func (.func 58) #[] #[.pointer (some (⟨g78, 0, none⟩ : Addr))]], box g77 49 [.func (.func 58) #[] #[.pointer (some (⟨g78, 0, none⟩ : Addr))]], box g78 67 [.func (.func 33) #[] #[.pointer (some ad79)]], own 3 (eI .i64) (some ad79) 1 [1], own 25 eSapi_Regs (some ad10) 1 [(⟨(Vector.replicate 16 0), 0, false, false, false, false⟩ : Sapi_Regs)], own 27 eSapi_Instr (some ad6) 1 [a1], own 25 eSapi_Regs (some ad2) 1 [a0]] := hw
               refine go_end (by kernel_rfl) ?_
               replace hw := hw.up 24
               replace hw := hw.up 24
               replace hw := hw.up 24
               replace hw := hw.up 3
               replace hw := hw.up 24
               replace hw := hw.up 24
               replace hw := hw.up 24
               replace hw := hw.up 24
               replace hw := hw.up 24
               replace hw := hw.up 24
               replace hw := hw.up 24
               replace hw := hw.up 24
               replace hw := hw.up 24
               replace hw := hw.up 24
               replace hw := hw.up 24
               replace hw := hw.up 24
               replace hw := hw.up 24
               replace hw := hw.up 24
               replace hw := hw.up 24
               replace hw := hw.up 24
               replace hw := hw.up 24
               replace hw := hw.up 24
               replace hw := hw.up 24
               replace hw := hw.up 24
               replace hw := hw.up 24
               replace hw := hw.only 25
               exact hJ5 ({ ({ (a0 : Sapi_Regs) with C := t192 } : Sapi_Regs) with V := t193 } : Sapi_Regs) t191 _ _ (hs.keep [8] (by kernel_rfl)) hw H
              ·replace H := ite_t H hb189
               rw [hb189] at hs
               refine go_pvs 6 9 [11, 12, 13, 14, 16, 19] hs (L' := [(11, .pointer (some ad29)), (12, .pointer (some ad29)), (13, .int .u32 (vx 0 a0.R (a1.B : Int).toNat)), (14, .int .u32 v55), (16, .bool true), (19, .pointer (some ((ad29 : Addr).add 19)))]) (by kernel_rfl) ?_ rfl
               clear hs; intro a hs
               refine go_run hs (op := (Op.load 4 (Operand.tmp 19))) (ty := 4) (dst := some 20) (g := some (5, true)) (by kernel_rfl) (by kernel_rfl) (by kernel_rfl) (x_ld (E := eSapi_Regs) (off := 19) (p := (ad29 : Addr).add 19) (v := .bool ((a0 : Sapi_Regs).C)) (Rd.of_own (hw.up 21)) (one_ok (a0 : Sapi_Regs)).1 (one_ok (a0 : Sapi_Regs)).2 (by kernel_rfl) (one_off _ _ _) (by kernel_rfl) (by kernel_rfl)) [11, 12, 13, 14, 16, 20] (L' := [(11, .pointer (some ad29)), (12, .pointer (some ad29)), (13, .int .u32 (vx 0 a0.R (a1.B : Int).toNat)), (14, .int .u32 v55), (16, .bool true), (20, .bool ((a0 : Sapi_Regs).C))]) (by kernel_rfl) ?_
               clear hs; intro a hs
               refine go_pvs 10 11 [11, 12, 13, 14, 21] hs (L' := [(11, .pointer (some ad29)), (12, .pointer (some ad29)), (13, .int .u32 (vx 0 a0.R (a1.B : Int).toNat)), (14, .int .u32 v55), (21, .bool ((a0 : Sapi_Regs).C))]) (by kernel_rfl) ?_ rfl
               clear hs; intro a hs
               obtain ⟨⟨t202, t203, t204⟩, hx205, H⟩ := bind_some H
               refine go_call hs (op := (Op.call { callee := (Callee.value (Operand.func 41)), args := #[(Operand.tmp 13), (Operand.tmp 14), (Operand.tmp 21)], argTypes := #[22, 22, 4] })) (ty := 55) (dst := some 22) (g := none) (by kernel_rfl) (by kernel_rfl) (by kernel_rfl) (f := 41) (args := #[.int .u32 (vx 0 a0.R (a1.B : Int).toNat), .int .u32 v55, .bool ((a0 : Sapi_Regs).C)]) (by kernel_rfl) (word_Add.calls (vx 0 a0.R (a1.B : Int).toNat) v55 ((a0 : Sapi_Regs).C) (t202, t203, t204) _ hx205) ?_
               rintro e wd206 ⟨rfl, hw207⟩
               refine ⟨_, rfl, ?_⟩
               replace hw := hw.call hw207
               intro a hs1
               replace hs : Slots a 31 [(11, .pointer (some ad29)), (12, .pointer (some ad29)), (22, .tuple #[.int .u32 t202, .bool t203, .bool t204])] := hs1.keep [11, 12, 22] (by kernel_rfl)
               clear hs1
               refine go_pvs 12 19 [8, 12, 24, 25, 27] hs (L' := [(8, .int .u32 t202), (12, .pointer (some ad29)), (24, .bool t203), (25, .bool t204), (27, .pointer (some ((ad29 : Addr).add 19)))]) (by kernel_rfl) ?_ rfl
               clear hs; intro a hs
               replace hw := hw.up 21
               obtain ⟨wd208, hx209, hw⟩ := x_put (P := Try.prog) (ty := 0) (t := 4) (x := (Operand.tmp 27)) (y := (Operand.tmp 24)) (off := 19) (p := (ad29 : Addr).add 19) (v := .bool t203) (vs := [.bool t203]) (i := 0) (e' := (({ (a0 : Sapi_Regs) with C := t203 } : Sapi_Regs) : Sapi_Regs)) hs hw rfl (one_ok (a0 : Sapi_Regs)).1 (one_ok (a0 : Sapi_Regs)).2 (by kernel_rfl) (one_off _ _ _) (by kernel_rfl) rfl (by kernel_rfl) (Nat.le_of_ble_eq_true rfl) (by simp [Value.oneCell']) (by kernel_rfl)
               refine go_unit hs (op := (Op.store 4 (Operand.tmp 27) (Operand.tmp 24))) (ty := 0) (dst := none) (g := none) (by kernel_rfl) (by kernel_rfl) (by kernel_rfl) hx209 [8, 12, 25] (L' := [(8, .int .u32 t202), (12, .pointer (some ad29)), (25, .bool t204)]) (by kernel_rfl) ?_
               clear hs; intro a hs
               replace hw : St [] w0 wd208 [own 25 eSapi_Regs (some ad29) 1 [({ (a0 : Sapi_Regs) with C := t203 } : Sapi_Regs)], box g59 50 [.func (.func 35) #[] #[], .func (.func 58) #[] #[.pointer (some (⟨g78, 0, none⟩ : Addr))], .func (.func 58) #[] #[.pointer (some (⟨g74, 0, none⟩ : Addr))], .func (.func 58) #[] #[.pointer (some (⟨g70, 0, none⟩ : Addr))], .func (.func 58) #[] #[.pointer (some (⟨g67, 0, none⟩ : Addr))], .func (.func 58) #[] #[.pointer (some (⟨g65, 0, none⟩ : Addr))], .func (.func 58) #[] #[.pointer (some (⟨g63, 0, none⟩ : Addr))], .func (.func 58) #[] #[.pointer (some (⟨g61, 0, none⟩ : Addr))], .func (.func 40) #[] #[], .func (.func 42) #[] #[], .func (.func 44) #[] #[], .func (.func 46) #[] #[]], box g60 49 [.func (.func 58) #[] #[.pointer (some (⟨g61, 0, none⟩ : Addr))]], box g61 67 [.func (.func 39) #[] #[]], box g62 49 [.func (.func 58) #[] #[.pointer (some (⟨g63, 0, none⟩ : Addr))]], box g63 67 [.func (.func 38) #[] #[]], box g64 49 [.func (.func 58) #[] #[.pointer (some (⟨g65, 0, none⟩ : Addr))]], box g65 67 [.func (.func 37) #[] #[]], box g66 49 [.func (.func 58) #[] #[.pointer (some (⟨g67, 0, none⟩ : Addr))]], box g67 67 [.func (.func 36) #[] #[]], box g68 49 [.func (.func 58) #[] #[.pointer (some (⟨g70, 0, none⟩ : Addr))]], box g69 49 [.func (.func 58) #[] #[.pointer (some (⟨g70, 0, none⟩ : Addr))]], box g70 67 [.func (.func 33) #[] #[.pointer (some ad71)]], own 3 (eI .i64) (some ad71) 1 [3], box g72 49 [.func (.func 58) #[] #[.pointer (some (⟨g74, 0, none⟩ : Addr))]], box g73 49 [.func (.func 58) #[] #[.pointer (some (⟨g74, 0, none⟩ : Addr))]], box g74 67 [.func (.func 33) #[] #[.pointer (some ad75)]], own 3 (eI .i64) (some ad75) 1 [2], box g76 49 [.func (.func 58) #[] #[.pointer (some (⟨g78, 0, none⟩ : Addr))]], box g77 49 [.func (.func 58) #[] #[.pointer (some (⟨g78, 0, none⟩ : Addr))]], box g78 67 [.func (.func 33) #[] #[.pointer (some ad79)]], own 3 (eI .i64) (some ad79) 1 [1], own 25 eSapi_Regs (some ad10) 1 [(⟨(Vector.replicate 16 0), 0, false, false, false, false⟩ : Sapi_Regs)], own 27 eSapi_Instr (some ad6) 1 [a1], own 25 eSapi_Regs (some ad2) 1 [a0]] := hw
               refine go_pvs 20 22 [8, 25, 29] hs (L' := [(8, .int .u32 t202), (25, .bool t204), (29, .pointer (some ((ad29 : Addr).add 20)))]) (by kernel_rfl) ?_ rfl
               clear hs; intro a hs
               obtain ⟨wd210, hx211, hw⟩ := x_put (P := Try.prog) (ty := 0) (t := 4) (x := (Operand.tmp 29)) (y := (Operand.tmp 25)) (off := 20) (p := (ad29 : Addr).add 20) (v := .bool t204) (vs := [.bool t204]) (i := 0) (e' := (({ ({ (a0 : Sapi_Regs) with C := t203 } : Sapi_Regs) with V := t204 } : Sapi_Regs) : Sapi_Regs)) hs hw rfl (one_ok ({ (a0 : Sapi_Regs) with C := t203 } : Sapi_Regs)).1 (one_ok ({ (a0 : Sapi_Regs) with C := t203 } : Sapi_Regs)).2 (by kernel_rfl) (one_off _ _ _) (by kernel_rfl) rfl (by kernel_rfl) (Nat.le_of_ble_eq_true rfl) (by simp [Value.oneCell']) (by kernel_rfl)
               refine go_unit hs (op := (Op.store 4 (Operand.tmp 29) (Operand.tmp 25))) (ty := 0) (dst := none) (g := none) (by kernel_rfl) (by kernel_rfl) (by kernel_rfl) hx211 [8] (L' := [(8, .int .u32 t202)]) (by kernel_rfl) ?_
               clear hs; intro a hs
               replace hw : St [] w0 wd210 [own 25 eSapi_Regs (some ad29) 1 [({ ({ (a0 : Sapi_Regs) with C := t203 } : Sapi_Regs) with V := t204 } : Sapi_Regs)], box g59 50 [.func (.func 35) #[] #[], .func (.func 58) #[] #[.pointer (some (⟨g78, 0, none⟩ : Addr))], .func (.func 58) #[] #[.pointer (some (⟨g74, 0, none⟩ : Addr))], .func (.func 58) #[] #[.pointer (some (⟨g70, 0, none⟩ : Addr))], .func (.func 58) #[] #[.pointer (some (⟨g67, 0, none⟩ : Addr))], .func (.func 58) #[] #[.pointer (some (⟨g65, 0, none⟩ : Addr))], .func (.func 58) #[] #[.pointer (some (⟨g63, 0, none⟩ : Addr))], .func (.func 58) #[] #[.pointer (some (⟨g61, 0, none⟩ : Addr))], .func (.func 40) #[] #[], .func (.func 42) #[] #[], .func (.func 44) #[] #[], .func (.func 46) #[] #[]], box g60 49 [.func (.func 58) #[] #[.pointer (some (⟨g61, 0, none⟩ : Addr))]], box g61 67 [.func (.func 39) #[] #[]], box g62 49 [.func (.func 58) #[] #[.pointer (some (⟨g63, 0, none⟩ : Addr))]], box g63 67 [.func (.func 38) #[] #[]], box g64 49 [.func (.func 58) #[] #[.pointer (some (⟨g65, 0, none⟩ : Addr))]], box g65 67 [.func (.func 37) #[] #[]], box g66 49 [.func (.func 58) #[] #[.pointer (some (⟨g67, 0, none⟩ : Addr))]], box g67 67 [.func (.func 36) #[] #[]], box g68 49 [.func (.func 58) #[] #[.pointer (some (⟨g70, 0, none⟩ : Addr))]], box g69 49 [.func (.func 58) #[] #[.pointer (some (⟨g70, 0, none⟩ : Addr))]], box g70 67 [.func (.func 33) #[] #[.pointer (some ad71)]], own 3 (eI .i64) (some ad71) 1 [3], box g72 49 [.func (.func 58) #[] #[.pointer (some (⟨g74, 0, none⟩ : Addr))]], box g73 49 [.func (.func 58) #[] #[.pointer (some (⟨g74, 0, none⟩ : Addr))]], box g74 67 [.func (.func 33) #[] #[.pointer (some ad75)]], own 3 (eI .i64) (some ad75) 1 [2], box g76 49 [.func (.func 58) #[] #[.pointer (some (⟨g78, 0, none⟩ : Addr))]], box g77 49 [.func (.func 58) #[] #[.pointer (some (⟨g78, 0, none⟩ : Addr))]], box g78 67 [.func (.func 33) #[] #[.pointer (some ad79)]], own 3 (eI .i64) (some ad79) 1 [1], own 25 eSapi_Regs (some ad10) 1 [(⟨(Vector.replicate 16 0), 0, false, false, false, false⟩ : Sapi_Regs)], own 27 eSapi_Instr (some ad6) 1 [a1], own 25 eSapi_Regs (some ad2) 1 [a0]] := hw
               refine go_end (by kernel_rfl) ?_
               replace hw := hw.up 24
               replace hw := hw.up 24
               replace hw := hw.up 24
               replace hw := hw.up 3
               replace hw := hw.up 24
               replace hw := hw.up 24
               replace hw := hw.up 24
               replace hw := hw.up 24
               replace hw := hw.up 24
               replace hw := hw.up 24
               replace hw := hw.up 24
               replace hw := hw.up 24
               replace hw := hw.up 24
               replace hw := hw.up 24
               replace hw := hw.up 24
               replace hw := hw.up 24
               replace hw := hw.up 24
               replace hw := hw.up 24
               replace hw := hw.up 24
               replace hw := hw.up 24
               replace hw := hw.up 24
               replace hw := hw.up 24
               replace hw := hw.up 24
               replace hw := hw.up 24
               replace hw := hw.up 24
               replace hw := hw.only 25
               exact hJ5 ({ ({ (a0 : Sapi_Regs) with C := t203 } : Sapi_Regs) with V := t204 } : Sapi_Regs) t202 _ _ (hs.keep [8] (by kernel_rfl)) hw H
             ·replace H := ite_f H hk185
              by_cases hk216 : a1.Op = 9
              ·replace H := ite_t H hk216
               replace hs := (congrArg (fun z => Slots a 69 [(2, .pointer (some ad2)), (3, .pointer (some ad6)), (4, .pointer (some ad10)), (6, .pointer (some ad29)), (34, .agg #[.func (.func 35) #[] #[], .func (.func 58) #[] #[.pointer (some (⟨g78, 0, none⟩ : Addr))], .func (.func 58) #[] #[.pointer (some (⟨g74, 0, none⟩ : Addr))], .func (.func 58) #[] #[.pointer (some (⟨g70, 0, none⟩ : Addr))], .func (.func 58) #[] #[.pointer (some (⟨g67, 0, none⟩ : Addr))], .func (.func 58) #[] #[.pointer (some (⟨g65, 0, none⟩ : Addr))], .func (.func 58) #[] #[.pointer (some (⟨g63, 0, none⟩ : Addr))], .func (.func 58) #[] #[.pointer (some (⟨g61, 0, none⟩ : Addr))], .func (.func 40) #[] #[], .func (.func 42) #[] #[], .func (.func 44) #[] #[], .func (.func 46) #[] #[]]), (36, .int .i64 z), (43, .int .u32 (vx 0 a0.R (a1.B : Int).toNat)), (44, .int .u32 v55), (46, .bool a1.U)]) hk216).mp hs
               replace hs : Slots a 69 [(2, .pointer (some ad2)), (3, .pointer (some ad6)), (4, .pointer (some ad10)), (6, .pointer (some ad29)), (34, .agg #[.func (.func 35) #[] #[], .func (.func 58) #[] #[.pointer (some (⟨g78, 0, none⟩ : Addr))], .func (.func 58) #[] #[.pointer (some (⟨g74, 0, none⟩ : Addr))], .func (.func 58) #[] #[.pointer (some (⟨g70, 0, none⟩ : Addr))], .func (.func 58) #[] #[.pointer (some (⟨g67, 0, none⟩ : Addr))], .func (.func 58) #[] #[.pointer (some (⟨g65, 0, none⟩ : Addr))], .func (.func 58) #[] #[.pointer (some (⟨g63, 0, none⟩ : Addr))], .func (.func 58) #[] #[.pointer (some (⟨g61, 0, none⟩ : Addr))], .func (.func 40) #[] #[], .func (.func 42) #[] #[], .func (.func 44) #[] #[], .func (.func 46) #[] #[]]), (36, .int .i64 9), (43, .int .u32 (vx 0 a0.R (a1.B : Int).toNat)), (44, .int .u32 v55), (46, .bool a1.U)] := hs
               refine s_pvs [3, 4] [] [2, 3, 4, 6, 38, 43, 44, 46] hbq hs (L' := [(2, .pointer (some ad2)), (3, .pointer (some ad6)), (4, .pointer (some ad10)), (6, .pointer (some ad29)), (38, .func (.func 42) #[] #[]), (43, .int .u32 (vx 0 a0.R (a1.B : Int).toNat)), (44, .int .u32 v55), (46, .bool a1.U)]) (by kernel_rfl) ?_ (by kernel_rfl)
               clear hs; intro a hs
               refine s_end ?_
               refine p_inline_k hs (op := (Op.call { callee := (Callee.value (Operand.tmp 38)), args := #[(Operand.tmp 6), (Operand.tmp 43), (Operand.tmp 44), (Operand.tmp 46)], argTypes := #[52, 22, 22, 4] })) (ty := 46) (dst := some 47) (g := none) (by kernel_rfl) (by kernel_rfl) (by kernel_rfl) (f := 42) (args := #[.pointer (some ad29), .int .u32 (vx 0 a0.R (a1.B : Int).toNat), .int .u32 v55, .bool a1.U]) (by kernel_rfl) (fun KR217 hKR217 => ?_)
               refine go_fn Try.func42 rfl 31 Try.ntmps42 [(0, .pointer (some ad29)), (1, .int .u32 (vx 0 a0.R (a1.B : Int).toNat)), (2, .int .u32 v55), (3, .bool a1.U)] (by kernel_rfl) rfl ?_
               clear hs; intro a hs
               refine go_seq_k fun K218 hK218 => ?_
               refine go_region ?_
               refine go_pvs 0 2 [0, 1, 2, 3] hs (L' := [(0, .pointer (some ad29)), (1, .int .u32 (vx 0 a0.R (a1.B : Int).toNat)), (2, .int .u32 v55), (3, .bool a1.U)]) (by kernel_rfl) ?_ rfl
               clear hs; intro a hs
               refine go_end (by kernel_rfl) ?_
               refine hK218 _ _ ?_
               refine go_seq_k fun K219 hK219 => ?_
               have hJ6 : ∀ (v243 : Sapi_Regs) (v244 : Int) (a : Act) (w : World), Slots a 31 [(8, .int .u32 v244)] → St [] w0 w [box g59 50 [.func (.func 35) #[] #[], .func (.func 58) #[] #[.pointer (some (⟨g78, 0, none⟩ : Addr))], .func (.func 58) #[] #[.pointer (some (⟨g74, 0, none⟩ : Addr))], .func (.func 58) #[] #[.pointer (some (⟨g70, 0, none⟩ : Addr))], .func (.func 58) #[] #[.pointer (some (⟨g67, 0, none⟩ : Addr))], .func (.func 58) #[] #[.pointer (some (⟨g65, 0, none⟩ : Addr))], .func (.func 58) #[] #[.pointer (some (⟨g63, 0, none⟩ : Addr))], .func (.func 58) #[] #[.pointer (some (⟨g61, 0, none⟩ : Addr))], .func (.func 40) #[] #[], .func (.func 42) #[] #[], .func (.func 44) #[] #[], .func (.func 46) #[] #[]], box g60 49 [.func (.func 58) #[] #[.pointer (some (⟨g61, 0, none⟩ : Addr))]], box g61 67 [.func (.func 39) #[] #[]], box g62 49 [.func (.func 58) #[] #[.pointer (some (⟨g63, 0, none⟩ : Addr))]], box g63 67 [.func (.func 38) #[] #[]], box g64 49 [.func (.func 58) #[] #[.pointer (some (⟨g65, 0, none⟩ : Addr))]], box g65 67 [.func (.func 37) #[] #[]], box g66 49 [.func (.func 58) #[] #[.pointer (some (⟨g67, 0, none⟩ : Addr))]], box g67 67 [.func (.func 36) #[] #[]], box g68 49 [.func (.func 58) #[] #[.pointer (some (⟨g70, 0, none⟩ : Addr))]], box g69 49 [.func (.func 58) #[] #[.pointer (some (⟨g70, 0, none⟩ : Addr))]], box g70 67 [.func (.func 33) #[] #[.pointer (some ad71)]], own 3 (eI .i64) (some ad71) 1 [3], box g72 49 [.func (.func 58) #[] #[.pointer (some (⟨g74, 0, none⟩ : Addr))]], box g73 49 [.func (.func 58) #[] #[.pointer (some (⟨g74, 0, none⟩ : Addr))]], box g74 67 [.func (.func 33) #[] #[.pointer (some ad75)]], own 3 (eI .i64) (some ad75) 1 [2], box g76 49 [.func (.func 58) #[] #[.pointer (some (⟨g78, 0, none⟩ : Addr))]], box g77 49 [.func (.func 58) #[] #[.pointer (some (⟨g78, 0, none⟩ : Addr))]], box g78 67 [.func (.func 33) #[] #[.pointer (some ad79)]], own 3 (eI .i64) (some ad79) 1 [1], own 25 eSapi_Regs (some ad29) 1 [v243], own 25 eSapi_Regs (some ad10) 1 [(⟨(Vector.replicate 16 0), 0, false, false, false, false⟩ : Sapi_Regs)], own 27 eSapi_Instr (some ad6) 1 [a1], own 25 eSapi_Regs (some ad2) 1 [a0]] → alu_Do.j6 a1 v243 v244 = some r → K219 a w := by
                intro v243 v244 a w hs hw H
                unfold alu_Do.j6 at H
                refine hK219 _ _ ?_
                refine go_seq_k fun K245 hK245 => ?_
                refine go_region ?_
                refine go_pvs 0 3 [8, 9] hs (L' := [(8, .int .u32 v244), (9, .bool true)]) (by kernel_rfl) ?_ rfl
                clear hs; intro a hs
                refine go_end (by kernel_rfl) ?_
                refine hK245 _ _ ?_
                refine wp_ret ?_
                refine ret2 (t1 := 8) (v1 := .int .u32 v244) (t2 := 9) (v2 := .bool true) hs (by kernel_rfl) (by kernel_rfl) (by kernel_rfl) ?_
                refine ⟨_, rfl, ?_⟩
                refine hKR217 _ _ ?_
                intro a hs1
                have hs : Slots a _ [(2, .pointer (some ad2)), (3, .pointer (some ad6)), (4, .pointer (some ad10)), (6, .pointer (some ad29)), (47, .tuple #[.int .u32 v244, .bool true])] := hs1.keep [2, 3, 4, 6, 47] (by kernel_rfl)
                clear hs1
                refine p_last ?_
                refine e_pvs [14, 15, 16, 17, 18] [] [2, 3, 4, 6, 7, 9] hs (L' := [(2, .pointer (some ad2)), (3, .pointer (some ad6)), (4, .pointer (some ad10)), (6, .pointer (some ad29)), (7, .int .u32 v244), (9, .bool true)]) (by kernel_rfl) ?_ (by kernel_rfl)
                clear hs; intro a hs
                refine e_end ?_
                refine hK57 _ _ ?_
                refine go_seq_k fun K246 hK246 => ?_
                refine go_region ?_
                refine go_pvs 0 2 [2, 3, 4, 6, 7, 51] hs (L' := [(2, .pointer (some ad2)), (3, .pointer (some ad6)), (4, .pointer (some ad10)), (6, .pointer (some ad29)), (7, .int .u32 v244), (51, .bool false)]) (by kernel_rfl) ?_ rfl
                clear hs; intro a hs
                refine go_end (by kernel_rfl) ?_
                refine hK246 _ _ ?_
                refine go_cond hs false (by kernel_rfl) (fun hc => ?_) (fun hc => ?_)
                ·cases hc
                ·skip
                 refine wp_skip ?_
                 refine ib_norm ?_
                 replace hw := hw.up 24
                 replace hw := hw.up 24
                 replace hw := hw.up 24
                 replace hw := hw.up 24
                 replace hw := hw.only 4
                 exact hJ7 v243 v244 _ _ (hs.keep [3, 4, 6, 7] (by kernel_rfl)) hw H
               refine go_region ?_
               refine go_pvs 0 6 [0, 11, 12, 13, 14, 16] hs (L' := [(0, .pointer (some ad29)), (11, .pointer (some ad29)), (12, .pointer (some ad29)), (13, .int .u32 (vx 0 a0.R (a1.B : Int).toNat)), (14, .int .u32 v55), (16, .bool a1.U)]) (by kernel_rfl) ?_ rfl
               clear hs; intro a hs
               cases hb220 : a1.U
               ·replace H := ite_f H (ff hb220)
                rw [hb220] at hs
                refine go_pvs 6 11 [11, 12, 13, 14, 21] hs (L' := [(11, .pointer (some ad29)), (12, .pointer (some ad29)), (13, .int .u32 (vx 0 a0.R (a1.B : Int).toNat)), (14, .int .u32 v55), (21, .bool false)]) (by kernel_rfl) ?_ rfl
                clear hs; intro a hs
                obtain ⟨⟨t222, t223, t224⟩, hx225, H⟩ := bind_some H
                refine go_call hs (op := (Op.call { callee := (Callee.value (Operand.func 43)), args := #[(Operand.tmp 13), (Operand.tmp 14), (Operand.tmp 21)], argTypes := #[22, 22, 4] })) (ty := 55) (dst := some 22) (g := none) (by kernel_rfl) (by kernel_rfl) (by kernel_rfl) (f := 43) (args := #[.int .u32 (vx 0 a0.R (a1.B : Int).toNat), .int .u32 v55, .bool false]) (by kernel_rfl) (word_Sub.calls (vx 0 a0.R (a1.B : Int).toNat) v55 false (t222, t223, t224) _ hx225) ?_
                rintro e wd226 ⟨rfl, hw227⟩
                refine ⟨_, rfl, ?_⟩
                replace hw := hw.call hw227
                intro a hs1
                replace hs : Slots a 31 [(11, .pointer (some ad29)), (12, .pointer (some ad29)), (22, .tuple #[.int .u32 t222, .bool t223, .bool t224])] := hs1.keep [11, 12, 22] (by kernel_rfl)
                clear hs1
                refine go_pvs 12 19 [8, 12, 24, 25, 27] hs (L' := [(8, .int .u32 t222), (12, .pointer (some ad29)), (24, .bool t223), (25, .bool t224), (27, .pointer (some ((ad29 : Addr).add 19)))]) (by kernel_rfl) ?_ rfl
                clear hs; intro a hs
                replace hw := hw.up 21
                obtain ⟨wd228, hx229, hw⟩ := x_put (P := Try.prog) (ty := 0) (t := 4) (x := (Operand.tmp 27)) (y := (Operand.tmp 24)) (off := 19) (p := (ad29 : Addr).add 19) (v := .bool t223) (vs := [.bool t223]) (i := 0) (e' := (({ (a0 : Sapi_Regs) with C := t223 } : Sapi_Regs) : Sapi_Regs)) hs hw rfl (one_ok (a0 : Sapi_Regs)).1 (one_ok (a0 : Sapi_Regs)).2 (by kernel_rfl) (one_off _ _ _) (by kernel_rfl) rfl (by kernel_rfl) (Nat.le_of_ble_eq_true rfl) (by simp [Value.oneCell']) (by kernel_rfl)
                refine go_unit hs (op := (Op.store 4 (Operand.tmp 27) (Operand.tmp 24))) (ty := 0) (dst := none) (g := none) (by kernel_rfl) (by kernel_rfl) (by kernel_rfl) hx229 [8, 12, 25] (L' := [(8, .int .u32 t222), (12, .pointer (some ad29)), (25, .bool t224)]) (by kernel_rfl) ?_
                clear hs; intro a hs
                replace hw : St [] w0 wd228 [own 25 eSapi_Regs (some ad29) 1 [({ (a0 : Sapi_Regs) with C := t223 } : Sapi_Regs)], box g59 50 [.func (.func 35) #[] #[], .func (.func 58) #[] #[.pointer (some (⟨g78, 0, none⟩ : Addr))], .func (.func 58) #[] #[.pointer (some (⟨g74, 0, none⟩ : Addr))], .func (.func 58) #[] #[.pointer (some (⟨g70, 0, none⟩ : Addr))], .func (.func 58) #[] #[.pointer (some (⟨g67, 0, none⟩ : Addr))], .func (.func 58) #[] #[.pointer (some (⟨g65, 0, none⟩ : Addr))], .func (.func 58) #[] #[.pointer (some (⟨g63, 0, none⟩ : Addr))], .func (.func 58) #[] #[.pointer (some (⟨g61, 0, none⟩ : Addr))], .func (.func 40) #[] #[], .func (.func 42) #[] #[], .func (.func 44) #[] #[], .func (.func 46) #[] #[]], box g60 49 [.func (.func 58) #[] #[.pointer (some (⟨g61, 0, none⟩ : Addr))]], box g61 67 [.func (.func 39) #[] #[]], box g62 49 [.func (.func 58) #[] #[.pointer (some (⟨g63, 0, none⟩ : Addr))]], box g63 67 [.func (.func 38) #[] #[]], box g64 49 [.func (.func 58) #[] #[.pointer (some (⟨g65, 0, none⟩ : Addr))]], box g65 67 [.func (.func 37) #[] #[]], box g66 49 [.func (.func 58) #[] #[.pointer (some (⟨g67, 0, none⟩ : Addr))]], box g67 67 [.func (.func 36) #[] #[]], box g68 49 [.func (.func 58) #[] #[.pointer (some (⟨g70, 0, none⟩ : Addr))]], box g69 49 [.func (.func 58) #[] #[.pointer (some (⟨g70, 0, none⟩ : Addr))]], box g70 67 [.func (.func 33) #[] #[.pointer (some ad71)]], own 3 (eI .i64) (some ad71) 1 [3], box g72 49 [.func (.func 58) #[] #[.pointer (some (⟨g74, 0, none⟩ : Addr))]], box g73 49 [.func (.func 58) #[] #[.pointer (some (⟨g74, 0, none⟩ : Addr))]], box g74 67 [.func (.func 33) #[] #[.pointer (some ad75)]], own 3 (eI .i64) (some ad75) 1 [2], box g76 49 [.func (.func 58) #[] #[.pointer (some (⟨g78, 0, none⟩ : Addr))]], box g77 49 [.func (.func 58) #[] #[.pointer (some (⟨g78, 0, none⟩ : Addr))]], box g78 67 [.func (.func 33) #[] #[.pointer (some ad79)]], own 3 (eI .i64) (some ad79) 1 [1], own 25 eSapi_Regs (some ad10) 1 [(⟨(Vector.replicate 16 0), 0, false, false, false, false⟩ : Sapi_Regs)], own 27 eSapi_Instr (some ad6) 1 [a1], own 25 eSapi_Regs (some ad2) 1 [a0]] := hw
                refine go_pvs 20 22 [8, 25, 29] hs (L' := [(8, .int .u32 t222), (25, .bool t224), (29, .pointer (some ((ad29 : Addr).add 20)))]) (by kernel_rfl) ?_ rfl
                clear hs; intro a hs
                obtain ⟨wd230, hx231, hw⟩ := x_put (P := Try.prog) (ty := 0) (t := 4) (x := (Operand.tmp 29)) (y := (Operand.tmp 25)) (off := 20) (p := (ad29 : Addr).add 20) (v := .bool t224) (vs := [.bool t224]) (i := 0) (e' := (({ ({ (a0 : Sapi_Regs) with C := t223 } : Sapi_Regs) with V := t224 } : Sapi_Regs) : Sapi_Regs)) hs hw rfl (one_ok ({ (a0 : Sapi_Regs) with C := t223 } : Sapi_Regs)).1 (one_ok ({ (a0 : Sapi_Regs) with C := t223 } : Sapi_Regs)).2 (by kernel_rfl) (one_off _ _ _) (by kernel_rfl) rfl (by kernel_rfl) (Nat.le_of_ble_eq_true rfl) (by simp [Value.oneCell']) (by kernel_rfl)
                refine go_unit hs (op := (Op.store 4 (Operand.tmp 29) (Operand.tmp 25))) (ty := 0) (dst := none) (g := none) (by kernel_rfl) (by kernel_rfl) (by kernel_rfl) hx231 [8] (L' := [(8, .int .u32 t222)]) (by kernel_rfl) ?_
                clear hs; intro a hs
                replace hw : St [] w0 wd230 [own 25 eSapi_Regs (some ad29) 1 [({ ({ (a0 : Sapi_Regs) with C := t223 } : Sapi_Regs) with V := t224 } : Sapi_Regs)], box g59 50 [.func (.func 35) #[] #[], .func (.func 58) #[] #[.pointer (some (⟨g78, 0, none⟩ : Addr))], .func (.func 58) #[] #[.pointer (some (⟨g74, 0, none⟩ : Addr))], .func (.func 58) #[] #[.pointer (some (⟨g70, 0, none⟩ : Addr))], .func (.func 58) #[] #[.pointer (some (⟨g67, 0, none⟩ : Addr))], .func (.func 58) #[] #[.pointer (some (⟨g65, 0, none⟩ : Addr))], .func (.func 58) #[] #[.pointer (some (⟨g63, 0, none⟩ : Addr))], .func (.func 58) #[] #[.pointer (some (⟨g61, 0, none⟩ : Addr))], .func (.func 40) #[] #[], .func (.func 42) #[] #[], .func (.func 44) #[] #[], .func (.func 46) #[] #[]], box g60 49 [.func (.func 58) #[] #[.pointer (some (⟨g61, 0, none⟩ : Addr))]], box g61 67 [.func (.func 39) #[] #[]], box g62 49 [.func (.func 58) #[] #[.pointer (some (⟨g63, 0, none⟩ : Addr))]], box g63 67 [.func (.func 38) #[] #[]], box g64 49 [.func (.func 58) #[] #[.pointer (some (⟨g65, 0, none⟩ : Addr))]], box g65 67 [.func (.func 37) #[] #[]], box g66 49 [.func (.func 58) #[] #[.pointer (some (⟨g67, 0, none⟩ : Addr))]], box g67 67 [.func (.func 36) #[] #[]], box g68 49 [.func (.func 58) #[] #[.pointer (some (⟨g70, 0, none⟩ : Addr))]], box g69 49 [.func (.func 58) #[] #[.pointer (some (⟨g70, 0, none⟩ : Addr))]], box g70 67 [.func (.func 33) #[] #[.pointer (some ad71)]], own 3 (eI .i64) (some ad71) 1 [3], box g72 49 [.func (.func 58) #[] #[.pointer (some (⟨g74, 0, none⟩ : Addr))]], box g73 49 [.func (.func 58) #[] #[.pointer (some (⟨g74, 0, none⟩ : Addr))]], box g74 67 [.func (.func 33) #[] #[.pointer (some ad75)]], own 3 (eI .i64) (some ad75) 1 [2], box g76 49 [.func (.func 58) #[] #[.pointer (some (⟨g78, 0, none⟩ : Addr))]], box g77 49 [.func (.func 58) #[] #[.pointer (some (⟨g78, 0, none⟩ : Addr))]], box g78 67 [.func (.func 33) #[] #[.pointer (some ad79)]], own 3 (eI .i64) (some ad79) 1 [1], own 25 eSapi_Regs (some ad10) 1 [(⟨(Vector.replicate 16 0), 0, false, false, false, false⟩ : Sapi_Regs)], own 27 eSapi_Instr (some ad6) 1 [a1], own 25 eSapi_Regs (some ad2) 1 [a0]] := hw
                refine go_end (by kernel_rfl) ?_
                replace hw := hw.up 24
                replace hw := hw.up 24
                replace hw := hw.up 24
                replace hw := hw.up 3
                replace hw := hw.up 24
                replace hw := hw.up 24
                replace hw := hw.up 24
                replace hw := hw.up 24
                replace hw := hw.up 24
                replace hw := hw.up 24
                replace hw := hw.up 24
                replace hw := hw.up 24
                replace hw := hw.up 24
                replace hw := hw.up 24
                replace hw := hw.up 24
                replace hw := hw.up 24
                replace hw := hw.up 24
                replace hw := hw.up 24
                replace hw := hw.up 24
                replace hw := hw.up 24
                replace hw := hw.up 24
                replace hw := hw.up 24
                replace hw := hw.up 24
                replace hw := hw.up 24
                replace hw := hw.up 24
                replace hw := hw.only 25
                exact hJ6 ({ ({ (a0 : Sapi_Regs) with C := t223 } : Sapi_Regs) with V := t224 } : Sapi_Regs) t222 _ _ (hs.keep [8] (by kernel_rfl)) hw H
               ·replace H := ite_t H hb220
                rw [hb220] at hs
                refine go_pvs 6 9 [11, 12, 13, 14, 16, 19] hs (L' := [(11, .pointer (some ad29)), (12, .pointer (some ad29)), (13, .int .u32 (vx 0 a0.R (a1.B : Int).toNat)), (14, .int .u32 v55), (16, .bool true), (19, .pointer (some ((ad29 : Addr).add 19)))]) (by kernel_rfl) ?_ rfl
                clear hs; intro a hs
                refine go_run hs (op := (Op.load 4 (Operand.tmp 19))) (ty := 4) (dst := some 20) (g := some (5, true)) (by kernel_rfl) (by kernel_rfl) (by kernel_rfl) (x_ld (E := eSapi_Regs) (off := 19) (p := (ad29 : Addr).add 19) (v := .bool ((a0 : Sapi_Regs).C)) (Rd.of_own (hw.up 21)) (one_ok (a0 : Sapi_Regs)).1 (one_ok (a0 : Sapi_Regs)).2 (by kernel_rfl) (one_off _ _ _) (by kernel_rfl) (by kernel_rfl)) [11, 12, 13, 14, 16, 20] (L' := [(11, .pointer (some ad29)), (12, .pointer (some ad29)), (13, .int .u32 (vx 0 a0.R (a1.B : Int).toNat)), (14, .int .u32 v55), (16, .bool true), (20, .bool ((a0 : Sapi_Regs).C))]) (by kernel_rfl) ?_
                clear hs; intro a hs
                refine go_pvs 10 11 [11, 12, 13, 14, 21] hs (L' := [(11, .pointer (some ad29)), (12, .pointer (some ad29)), (13, .int .u32 (vx 0 a0.R (a1.B : Int).toNat)), (14, .int .u32 v55), (21, .bool ((a0 : Sapi_Regs).C))]) (by kernel_rfl) ?_ rfl
                clear hs; intro a hs
                obtain ⟨⟨t233, t234, t235⟩, hx236, H⟩ := bind_some H
                refine go_call hs (op := (Op.call { callee := (Callee.value (Operand.func 43)), args := #[(Operand.tmp 13), (Operand.tmp 14), (Operand.tmp 21)], argTypes := #[22, 22, 4] })) (ty := 55) (dst := some 22) (g := none) (by kernel_rfl) (by kernel_rfl) (by kernel_rfl) (f := 43) (args := #[.int .u32 (vx 0 a0.R (a1.B : Int).toNat), .int .u32 v55, .bool ((a0 : Sapi_Regs).C)]) (by kernel_rfl) (word_Sub.calls (vx 0 a0.R (a1.B : Int).toNat) v55 ((a0 : Sapi_Regs).C) (t233, t234, t235) _ hx236) ?_
                rintro e wd237 ⟨rfl, hw238⟩
                refine ⟨_, rfl, ?_⟩
                replace hw := hw.call hw238
                intro a hs1
                replace hs : Slots a 31 [(11, .pointer (some ad29)), (12, .pointer (some ad29)), (22, .tuple #[.int .u32 t233, .bool t234, .bool t235])] := hs1.keep [11, 12, 22] (by kernel_rfl)
                clear hs1
                refine go_pvs 12 19 [8, 12, 24, 25, 27] hs (L' := [(8, .int .u32 t233), (12, .pointer (some ad29)), (24, .bool t234), (25, .bool t235), (27, .pointer (some ((ad29 : Addr).add 19)))]) (by kernel_rfl) ?_ rfl
                clear hs; intro a hs
                replace hw := hw.up 21
                obtain ⟨wd239, hx240, hw⟩ := x_put (P := Try.prog) (ty := 0) (t := 4) (x := (Operand.tmp 27)) (y := (Operand.tmp 24)) (off := 19) (p := (ad29 : Addr).add 19) (v := .bool t234) (vs := [.bool t234]) (i := 0) (e' := (({ (a0 : Sapi_Regs) with C := t234 } : Sapi_Regs) : Sapi_Regs)) hs hw rfl (one_ok (a0 : Sapi_Regs)).1 (one_ok (a0 : Sapi_Regs)).2 (by kernel_rfl) (one_off _ _ _) (by kernel_rfl) rfl (by kernel_rfl) (Nat.le_of_ble_eq_true rfl) (by simp [Value.oneCell']) (by kernel_rfl)
                refine go_unit hs (op := (Op.store 4 (Operand.tmp 27) (Operand.tmp 24))) (ty := 0) (dst := none) (g := none) (by kernel_rfl) (by kernel_rfl) (by kernel_rfl) hx240 [8, 12, 25] (L' := [(8, .int .u32 t233), (12, .pointer (some ad29)), (25, .bool t235)]) (by kernel_rfl) ?_
                clear hs; intro a hs
                replace hw : St [] w0 wd239 [own 25 eSapi_Regs (some ad29) 1 [({ (a0 : Sapi_Regs) with C := t234 } : Sapi_Regs)], box g59 50 [.func (.func 35) #[] #[], .func (.func 58) #[] #[.pointer (some (⟨g78, 0, none⟩ : Addr))], .func (.func 58) #[] #[.pointer (some (⟨g74, 0, none⟩ : Addr))], .func (.func 58) #[] #[.pointer (some (⟨g70, 0, none⟩ : Addr))], .func (.func 58) #[] #[.pointer (some (⟨g67, 0, none⟩ : Addr))], .func (.func 58) #[] #[.pointer (some (⟨g65, 0, none⟩ : Addr))], .func (.func 58) #[] #[.pointer (some (⟨g63, 0, none⟩ : Addr))], .func (.func 58) #[] #[.pointer (some (⟨g61, 0, none⟩ : Addr))], .func (.func 40) #[] #[], .func (.func 42) #[] #[], .func (.func 44) #[] #[], .func (.func 46) #[] #[]], box g60 49 [.func (.func 58) #[] #[.pointer (some (⟨g61, 0, none⟩ : Addr))]], box g61 67 [.func (.func 39) #[] #[]], box g62 49 [.func (.func 58) #[] #[.pointer (some (⟨g63, 0, none⟩ : Addr))]], box g63 67 [.func (.func 38) #[] #[]], box g64 49 [.func (.func 58) #[] #[.pointer (some (⟨g65, 0, none⟩ : Addr))]], box g65 67 [.func (.func 37) #[] #[]], box g66 49 [.func (.func 58) #[] #[.pointer (some (⟨g67, 0, none⟩ : Addr))]], box g67 67 [.func (.func 36) #[] #[]], box g68 49 [.func (.func 58) #[] #[.pointer (some (⟨g70, 0, none⟩ : Addr))]], box g69 49 [.func (.func 58) #[] #[.pointer (some (⟨g70, 0, none⟩ : Addr))]], box g70 67 [.func (.func 33) #[] #[.pointer (some ad71)]], own 3 (eI .i64) (some ad71) 1 [3], box g72 49 [.func (.func 58) #[] #[.pointer (some (⟨g74, 0, none⟩ : Addr))]], box g73 49 [.func (.func 58) #[] #[.pointer (some (⟨g74, 0, none⟩ : Addr))]], box g74 67 [.func (.func 33) #[] #[.pointer (some ad75)]], own 3 (eI .i64) (some ad75) 1 [2], box g76 49 [.func (.func 58) #[] #[.pointer (some (⟨g78, 0, none⟩ : Addr))]], box g77 49 [.func (.func 58) #[] #[.pointer (some (⟨g78, 0, none⟩ : Addr))]], box g78 67 [.func (.func 33) #[] #[.pointer (some ad79)]], own 3 (eI .i64) (some ad79) 1 [1], own 25 eSapi_Regs (some ad10) 1 [(⟨(Vector.replicate 16 0), 0, false, false, false, false⟩ : Sapi_Regs)], own 27 eSapi_Instr (some ad6) 1 [a1], own 25 eSapi_Regs (some ad2) 1 [a0]] := hw
                refine go_pvs 20 22 [8, 25, 29] hs (L' := [(8, .int .u32 t233), (25, .bool t235), (29, .pointer (some ((ad29 : Addr).add 20)))]) (by kernel_rfl) ?_ rfl
                clear hs; intro a hs
                obtain ⟨wd241, hx242, hw⟩ := x_put (P := Try.prog) (ty := 0) (t := 4) (x := (Operand.tmp 29)) (y := (Operand.tmp 25)) (off := 20) (p := (ad29 : Addr).add 20) (v := .bool t235) (vs := [.bool t235]) (i := 0) (e' := (({ ({ (a0 : Sapi_Regs) with C := t234 } : Sapi_Regs) with V := t235 } : Sapi_Regs) : Sapi_Regs)) hs hw rfl (one_ok ({ (a0 : Sapi_Regs) with C := t234 } : Sapi_Regs)).1 (one_ok ({ (a0 : Sapi_Regs) with C := t234 } : Sapi_Regs)).2 (by kernel_rfl) (one_off _ _ _) (by kernel_rfl) rfl (by kernel_rfl) (Nat.le_of_ble_eq_true rfl) (by simp [Value.oneCell']) (by kernel_rfl)
                refine go_unit hs (op := (Op.store 4 (Operand.tmp 29) (Operand.tmp 25))) (ty := 0) (dst := none) (g := none) (by kernel_rfl) (by kernel_rfl) (by kernel_rfl) hx242 [8] (L' := [(8, .int .u32 t233)]) (by kernel_rfl) ?_
                clear hs; intro a hs
                replace hw : St [] w0 wd241 [own 25 eSapi_Regs (some ad29) 1 [({ ({ (a0 : Sapi_Regs) with C := t234 } : Sapi_Regs) with V := t235 } : Sapi_Regs)], box g59 50 [.func (.func 35) #[] #[], .func (.func 58) #[] #[.pointer (some (⟨g78, 0, none⟩ : Addr))], .func (.func 58) #[] #[.pointer (some (⟨g74, 0, none⟩ : Addr))], .func (.func 58) #[] #[.pointer (some (⟨g70, 0, none⟩ : Addr))], .func (.func 58) #[] #[.pointer (some (⟨g67, 0, none⟩ : Addr))], .func (.func 58) #[] #[.pointer (some (⟨g65, 0, none⟩ : Addr))], .func (.func 58) #[] #[.pointer (some (⟨g63, 0, none⟩ : Addr))], .func (.func 58) #[] #[.pointer (some (⟨g61, 0, none⟩ : Addr))], .func (.func 40) #[] #[], .func (.func 42) #[] #[], .func (.func 44) #[] #[], .func (.func 46) #[] #[]], box g60 49 [.func (.func 58) #[] #[.pointer (some (⟨g61, 0, none⟩ : Addr))]], box g61 67 [.func (.func 39) #[] #[]], box g62 49 [.func (.func 58) #[] #[.pointer (some (⟨g63, 0, none⟩ : Addr))]], box g63 67 [.func (.func 38) #[] #[]], box g64 49 [.func (.func 58) #[] #[.pointer (some (⟨g65, 0, none⟩ : Addr))]], box g65 67 [.func (.func 37) #[] #[]], box g66 49 [.func (.func 58) #[] #[.pointer (some (⟨g67, 0, none⟩ : Addr))]], box g67 67 [.func (.func 36) #[] #[]], box g68 49 [.func (.func 58) #[] #[.pointer (some (⟨g70, 0, none⟩ : Addr))]], box g69 49 [.func (.func 58) #[] #[.pointer (some (⟨g70, 0, none⟩ : Addr))]], box g70 67 [.func (.func 33) #[] #[.pointer (some ad71)]], own 3 (eI .i64) (some ad71) 1 [3], box g72 49 [.func (.func 58) #[] #[.pointer (some (⟨g74, 0, none⟩ : Addr))]], box g73 49 [.func (.func 58) #[] #[.pointer (some (⟨g74, 0, none⟩ : Addr))]], box g74 67 [.func (.func 33) #[] #[.pointer (some ad75)]], own 3 (eI .i64) (some ad75) 1 [2], box g76 49 [.func (.func 58) #[] #[.pointer (some (⟨g78, 0, none⟩ : Addr))]], box g77 49 [.func (.func 58) #[] #[.pointer (some (⟨g78, 0, none⟩ : Addr))]], box g78 67 [.func (.func 33) #[] #[.pointer (some ad79)]], own 3 (eI .i64) (some ad79) 1 [1], own 25 eSapi_Regs (some ad10) 1 [(⟨(Vector.replicate 16 0), 0, false, false, false, false⟩ : Sapi_Regs)], own 27 eSapi_Instr (some ad6) 1 [a1], own 25 eSapi_Regs (some ad2) 1 [a0]] := hw
                refine go_end (by kernel_rfl) ?_
                replace hw := hw.up 24
                replace hw := hw.up 24
                replace hw := hw.up 24
                replace hw := hw.up 3
                replace hw := hw.up 24
                replace hw := hw.up 24
                replace hw := hw.up 24
                replace hw := hw.up 24
                replace hw := hw.up 24
                replace hw := hw.up 24
                replace hw := hw.up 24
                replace hw := hw.up 24
                replace hw := hw.up 24
                replace hw := hw.up 24
                replace hw := hw.up 24
                replace hw := hw.up 24
                replace hw := hw.up 24
                replace hw := hw.up 24
                replace hw := hw.up 24
                replace hw := hw.up 24
                replace hw := hw.up 24
                replace hw := hw.up 24
                replace hw := hw.up 24
                replace hw := hw.up 24
                replace hw := hw.up 24
                replace hw := hw.only 25
                exact hJ6 ({ ({ (a0 : Sapi_Regs) with C := t234 } : Sapi_Regs) with V := t235 } : Sapi_Regs) t233 _ _ (hs.keep [8] (by kernel_rfl)) hw H
              ·replace H := ite_f H hk216
               by_cases hk247 : a1.Op = 10
               ·replace H := ite_t H hk247
                replace hs := (congrArg (fun z => Slots a 69 [(2, .pointer (some ad2)), (3, .pointer (some ad6)), (4, .pointer (some ad10)), (6, .pointer (some ad29)), (34, .agg #[.func (.func 35) #[] #[], .func (.func 58) #[] #[.pointer (some (⟨g78, 0, none⟩ : Addr))], .func (.func 58) #[] #[.pointer (some (⟨g74, 0, none⟩ : Addr))], .func (.func 58) #[] #[.pointer (some (⟨g70, 0, none⟩ : Addr))], .func (.func 58) #[] #[.pointer (some (⟨g67, 0, none⟩ : Addr))], .func (.func 58) #[] #[.pointer (some (⟨g65, 0, none⟩ : Addr))], .func (.func 58) #[] #[.pointer (some (⟨g63, 0, none⟩ : Addr))], .func (.func 58) #[] #[.pointer (some (⟨g61, 0, none⟩ : Addr))], .func (.func 40) #[] #[], .func (.func 42) #[] #[], .func (.func 44) #[] #[], .func (.func 46) #[] #[]]), (36, .int .i64 z), (43, .int .u32 (vx 0 a0.R (a1.B : Int).toNat)), (44, .int .u32 v55), (46, .bool a1.U)]) hk247).mp hs
                replace hs : Slots a 69 [(2, .pointer (some ad2)), (3, .pointer (some ad6)), (4, .pointer (some ad10)), (6, .pointer (some ad29)), (34, .agg #[.func (.func 35) #[] #[], .func (.func 58) #[] #[.pointer (some (⟨g78, 0, none⟩ : Addr))], .func (.func 58) #[] #[.pointer (some (⟨g74, 0, none⟩ : Addr))], .func (.func 58) #[] #[.pointer (some (⟨g70, 0, none⟩ : Addr))], .func (.func 58) #[] #[.pointer (some (⟨g67, 0, none⟩ : Addr))], .func (.func 58) #[] #[.pointer (some (⟨g65, 0, none⟩ : Addr))], .func (.func 58) #[] #[.pointer (some (⟨g63, 0, none⟩ : Addr))], .func (.func 58) #[] #[.pointer (some (⟨g61, 0, none⟩ : Addr))], .func (.func 40) #[] #[], .func (.func 42) #[] #[], .func (.func 44) #[] #[], .func (.func 46) #[] #[]]), (36, .int .i64 10), (43, .int .u32 (vx 0 a0.R (a1.B : Int).toNat)), (44, .int .u32 v55), (46, .bool a1.U)] := hs
                refine s_pvs [3, 4] [] [2, 3, 4, 6, 38, 43, 44, 46] hbq hs (L' := [(2, .pointer (some ad2)), (3, .pointer (some ad6)), (4, .pointer (some ad10)), (6, .pointer (some ad29)), (38, .func (.func 44) #[] #[]), (43, .int .u32 (vx 0 a0.R (a1.B : Int).toNat)), (44, .int .u32 v55), (46, .bool a1.U)]) (by kernel_rfl) ?_ (by kernel_rfl)
                clear hs; intro a hs
                refine s_end ?_
                refine p_inline_k hs (op := (Op.call { callee := (Callee.value (Operand.tmp 38)), args := #[(Operand.tmp 6), (Operand.tmp 43), (Operand.tmp 44), (Operand.tmp 46)], argTypes := #[52, 22, 22, 4] })) (ty := 46) (dst := some 47) (g := none) (by kernel_rfl) (by kernel_rfl) (by kernel_rfl) (f := 44) (args := #[.pointer (some ad29), .int .u32 (vx 0 a0.R (a1.B : Int).toNat), .int .u32 v55, .bool a1.U]) (by kernel_rfl) (fun KR248 hKR248 => ?_)
                refine go_fn Try.func44 rfl 21 Try.ntmps44 [(0, .pointer (some ad29)), (1, .int .u32 (vx 0 a0.R (a1.B : Int).toNat)), (2, .int .u32 v55), (3, .bool a1.U)] (by kernel_rfl) rfl ?_
                clear hs; intro a hs
                refine go_seq_k fun K249 hK249 => ?_
                refine go_region ?_
                refine go_pvs 0 2 [0, 1, 2, 3] hs (L' := [(0, .pointer (some ad29)), (1, .int .u32 (vx 0 a0.R (a1.B : Int).toNat)), (2, .int .u32 v55), (3, .bool a1.U)]) (by kernel_rfl) ?_ rfl
                clear hs; intro a hs
                refine go_end (by kernel_rfl) ?_
                refine hK249 _ _ ?_
                refine go_seq_k fun K250 hK250 => ?_
                refine go_region ?_
                refine go_pvs 0 4 [11, 12, 13, 14] hs (L' := [(11, .pointer (some ad29)), (12, .int .u32 (vx 0 a0.R (a1.B : Int).toNat)), (13, .int .u32 v55), (14, .bool a1.U)]) (by kernel_rfl) ?_ rfl
                clear hs; intro a hs
                obtain ⟨⟨t252, t253⟩, hx254, H⟩ := bind_some H
                refine go_call hs (op := (Op.call { callee := (Callee.value (Operand.func 45)), args := #[(Operand.tmp 12), (Operand.tmp 13), (Operand.tmp 14)], argTypes := #[22, 22, 4] })) (ty := 57) (dst := some 15) (g := none) (by kernel_rfl) (by kernel_rfl) (by kernel_rfl) (f := 45) (args := #[.int .u32 (vx 0 a0.R (a1.B : Int).toNat), .int .u32 v55, .bool a1.U]) (by kernel_rfl) (word_Mul.calls (vx 0 a0.R (a1.B : Int).toNat) v55 a1.U (t252, t253) _ hx254) ?_
                rintro e wd255 ⟨rfl, hw256⟩
                refine ⟨_, rfl, ?_⟩
                replace hw := hw.call hw256
                intro a hs1
                replace hs : Slots a 21 [(11, .pointer (some ad29)), (15, .tuple #[.int .u32 t252, .int .u32 t253])] := hs1.keep [11, 15] (by kernel_rfl)
                clear hs1
                refine go_pvs 5 11 [8, 17, 19] hs (L' := [(8, .int .u32 t252), (17, .int .u32 t253), (19, .pointer (some ((ad29 : Addr).add 16)))]) (by kernel_rfl) ?_ rfl
                clear hs; intro a hs
                replace hw := hw.up 21
                obtain ⟨wd257, hx258, hw⟩ := x_put (P := Try.prog) (ty := 0) (t := 22) (x := (Operand.tmp 19)) (y := (Operand.tmp 17)) (off := 16) (p := (ad29 : Addr).add 16) (v := .int .u32 t253) (vs := [.int .u32 t253]) (i := 0) (e' := (({ (a0 : Sapi_Regs) with H := t253 } : Sapi_Regs) : Sapi_Regs)) hs hw rfl (one_ok (a0 : Sapi_Regs)).1 (one_ok (a0 : Sapi_Regs)).2 (by kernel_rfl) (one_off _ _ _) (by kernel_rfl) rfl (by kernel_rfl) (Nat.le_of_ble_eq_true rfl) (by simp [Value.oneCell']) (by kernel_rfl)
                refine go_unit hs (op := (Op.store 22 (Operand.tmp 19) (Operand.tmp 17))) (ty := 0) (dst := none) (g := none) (by kernel_rfl) (by kernel_rfl) (by kernel_rfl) hx258 [8] (L' := [(8, .int .u32 t252)]) (by kernel_rfl) ?_
                clear hs; intro a hs
                replace hw : St [] w0 wd257 [own 25 eSapi_Regs (some ad29) 1 [({ (a0 : Sapi_Regs) with H := t253 } : Sapi_Regs)], box g59 50 [.func (.func 35) #[] #[], .func (.func 58) #[] #[.pointer (some (⟨g78, 0, none⟩ : Addr))], .func (.func 58) #[] #[.pointer (some (⟨g74, 0, none⟩ : Addr))], .func (.func 58) #[] #[.pointer (some (⟨g70, 0, none⟩ : Addr))], .func (.func 58) #[] #[.pointer (some (⟨g67, 0, none⟩ : Addr))], .func (.func 58) #[] #[.pointer (some (⟨g65, 0, none⟩ : Addr))], .func (.func 58) #[] #[.pointer (some (⟨g63, 0, none⟩ : Addr))], .func (.func 58) #[] #[.pointer (some (⟨g61, 0, none⟩ : Addr))], .func (.func 40) #[] #[], .func (.func 42) #[] #[], .func (.func 44) #[] #[], .func (.func 46) #[] #[]], box g60 49 [.func (.func 58) #[] #[.pointer (some (⟨g61, 0, none⟩ : Addr))]], box g61 67 [.func (.func 39) #[] #[]], box g62 49 [.func (.func 58) #[] #[.pointer (some (⟨g63, 0, none⟩ : Addr))]], box g63 67 [.func (.func 38) #[] #[]], box g64 49 [.func (.func 58) #[] #[.pointer (some (⟨g65, 0, none⟩ : Addr))]], box g65 67 [.func (.func 37) #[] #[]], box g66 49 [.func (.func 58) #[] #[.pointer (some (⟨g67, 0, none⟩ : Addr))]], box g67 67 [.func (.func 36) #[] #[]], box g68 49 [.func (.func 58) #[] #[.pointer (some (⟨g70, 0, none⟩ : Addr))]], box g69 49 [.func (.func 58) #[] #[.pointer (some (⟨g70, 0, none⟩ : Addr))]], box g70 67 [.func (.func 33) #[] #[.pointer (some ad71)]], own 3 (eI .i64) (some ad71) 1 [3], box g72 49 [.func (.func 58) #[] #[.pointer (some (⟨g74, 0, none⟩ : Addr))]], box g73 49 [.func (.func 58) #[] #[.pointer (some (⟨g74, 0, none⟩ : Addr))]], box g74 67 [.func (.func 33) #[] #[.pointer (some ad75)]], own 3 (eI .i64) (some ad75) 1 [2], box g76 49 [.func (.func 58) #[] #[.pointer (some (⟨g78, 0, none⟩ : Addr))]], box g77 49 [.func (.func 58) #[] #[.pointer (some (⟨g78, 0, none⟩ : Addr))]], box g78 67 [.func (.func 33) #[] #[.pointer (some ad79)]], own 3 (eI .i64) (some ad79) 1 [1], own 25 eSapi_Regs (some ad10) 1 [(⟨(Vector.replicate 16 0), 0, false, false, false, false⟩ : Sapi_Regs)], own 27 eSapi_Instr (some ad6) 1 [a1], own 25 eSapi_Regs (some ad2) 1 [a0]] := hw
                refine go_end (by kernel_rfl) ?_
                refine hK250 _ _ ?_
                refine go_seq_k fun K259 hK259 => ?_
                refine go_region ?_
                refine go_pvs 0 3 [8, 9] hs (L' := [(8, .int .u32 t252), (9, .bool true)]) (by kernel_rfl) ?_ rfl
                clear hs; intro a hs
                refine go_end (by kernel_rfl) ?_
                refine hK259 _ _ ?_
                refine wp_ret ?_
                refine ret2 (t1 := 8) (v1 := .int .u32 t252) (t2 := 9) (v2 := .bool true) hs (by kernel_rfl) (by kernel_rfl) (by kernel_rfl) ?_
                refine ⟨_, rfl, ?_⟩
                refine hKR248 _ _ ?_
                intro a hs1
                have hs : Slots a _ [(2, .pointer (some ad2)), (3, .pointer (some ad6)), (4, .pointer (some ad10)), (6, .pointer (some ad29)), (47, .tuple #[.int .u32 t252, .bool true])] := hs1.keep [2, 3, 4, 6, 47] (by kernel_rfl)
                clear hs1
                refine p_last ?_
                refine e_pvs [14, 15, 16, 17, 18] [] [2, 3, 4, 6, 7, 9] hs (L' := [(2, .pointer (some ad2)), (3, .pointer (some ad6)), (4, .pointer (some ad10)), (6, .pointer (some ad29)), (7, .int .u32 t252), (9, .bool true)]) (by kernel_rfl) ?_ (by kernel_rfl)
                clear hs; intro a hs
                refine e_end ?_
                refine hK57 _ _ ?_
                refine go_seq_k fun K260 hK260 => ?_
                refine go_region ?_
                refine go_pvs 0 2 [2, 3, 4, 6, 7, 51] hs (L' := [(2, .pointer (some ad2)), (3, .pointer (some ad6)), (4, .pointer (some ad10)), (6, .pointer (some ad29)), (7, .int .u32 t252), (51, .bool false)]) (by kernel_rfl) ?_ rfl
                clear hs; intro a hs
                refine go_end (by kernel_rfl) ?_
                refine hK260 _ _ ?_
                refine go_cond hs false (by kernel_rfl) (fun hc => ?_) (fun hc => ?_)
                ·cases hc
                ·skip
                 refine wp_skip ?_
                 refine ib_norm ?_
                 replace hw := hw.up 24
                 replace hw := hw.up 24
                 replace hw := hw.up 24
                 replace hw := hw.up 3
                 replace hw := hw.only 4
                 exact hJ7 ({ (a0 : Sapi_Regs) with H := t253 } : Sapi_Regs) t252 _ _ (hs.keep [3, 4, 6, 7] (by kernel_rfl)) hw H
               ·replace H := ite_f H hk247
                by_cases hk261 : a1.Op = 11
                ·replace H := ite_t H hk261
                 replace hs := (congrArg (fun z => Slots a 69 [(2, .pointer (some ad2)), (3, .pointer (some ad6)), (4, .pointer (some ad10)), (6, .pointer (some ad29)), (34, .agg #[.func (.func 35) #[] #[], .func (.func 58) #[] #[.pointer (some (⟨g78, 0, none⟩ : Addr))], .func (.func 58) #[] #[.pointer (some (⟨g74, 0, none⟩ : Addr))], .func (.func 58) #[] #[.pointer (some (⟨g70, 0, none⟩ : Addr))], .func (.func 58) #[] #[.pointer (some (⟨g67, 0, none⟩ : Addr))], .func (.func 58) #[] #[.pointer (some (⟨g65, 0, none⟩ : Addr))], .func (.func 58) #[] #[.pointer (some (⟨g63, 0, none⟩ : Addr))], .func (.func 58) #[] #[.pointer (some (⟨g61, 0, none⟩ : Addr))], .func (.func 40) #[] #[], .func (.func 42) #[] #[], .func (.func 44) #[] #[], .func (.func 46) #[] #[]]), (36, .int .i64 z), (43, .int .u32 (vx 0 a0.R (a1.B : Int).toNat)), (44, .int .u32 v55), (46, .bool a1.U)]) hk261).mp hs
                 replace hs : Slots a 69 [(2, .pointer (some ad2)), (3, .pointer (some ad6)), (4, .pointer (some ad10)), (6, .pointer (some ad29)), (34, .agg #[.func (.func 35) #[] #[], .func (.func 58) #[] #[.pointer (some (⟨g78, 0, none⟩ : Addr))], .func (.func 58) #[] #[.pointer (some (⟨g74, 0, none⟩ : Addr))], .func (.func 58) #[] #[.pointer (some (⟨g70, 0, none⟩ : Addr))], .func (.func 58) #[] #[.pointer (some (⟨g67, 0, none⟩ : Addr))], .func (.func 58) #[] #[.pointer (some (⟨g65, 0, none⟩ : Addr))], .func (.func 58) #[] #[.pointer (some (⟨g63, 0, none⟩ : Addr))], .func (.func 58) #[] #[.pointer (some (⟨g61, 0, none⟩ : Addr))], .func (.func 40) #[] #[], .func (.func 42) #[] #[], .func (.func 44) #[] #[], .func (.func 46) #[] #[]]), (36, .int .i64 11), (43, .int .u32 (vx 0 a0.R (a1.B : Int).toNat)), (44, .int .u32 v55), (46, .bool a1.U)] := hs
                 refine s_pvs [3, 4] [] [2, 3, 4, 6, 38, 43, 44, 46] hbq hs (L' := [(2, .pointer (some ad2)), (3, .pointer (some ad6)), (4, .pointer (some ad10)), (6, .pointer (some ad29)), (38, .func (.func 46) #[] #[]), (43, .int .u32 (vx 0 a0.R (a1.B : Int).toNat)), (44, .int .u32 v55), (46, .bool a1.U)]) (by kernel_rfl) ?_ (by kernel_rfl)
                 clear hs; intro a hs
                 refine s_end ?_
                 refine p_inline_k hs (op := (Op.call { callee := (Callee.value (Operand.tmp 38)), args := #[(Operand.tmp 6), (Operand.tmp 43), (Operand.tmp 44), (Operand.tmp 46)], argTypes := #[52, 22, 22, 4] })) (ty := 46) (dst := some 47) (g := none) (by kernel_rfl) (by kernel_rfl) (by kernel_rfl) (f := 46) (args := #[.pointer (some ad29), .int .u32 (vx 0 a0.R (a1.B : Int).toNat), .int .u32 v55, .bool a1.U]) (by kernel_rfl) (fun KR262 hKR262 => ?_)
                 refine go_fn Try.func46 rfl 26 Try.ntmps46 [(0, .pointer (some ad29)), (1, .int .u32 (vx 0 a0.R (a1.B : Int).toNat)), (2, .int .u32 v55), (3, .bool a1.U)] (by kernel_rfl) rfl ?_
                 clear hs; intro a hs
                 refine go_seq_k fun K263 hK263 => ?_
                 refine go_region ?_
                 refine go_pvs 0 2 [0, 1, 2] hs (L' := [(0, .pointer (some ad29)), (1, .int .u32 (vx 0 a0.R (a1.B : Int).toNat)), (2, .int .u32 v55)]) (by kernel_rfl) ?_ rfl
                 clear hs; intro a hs
                 refine go_end (by kernel_rfl) ?_
                 refine hK263 _ _ ?_
                 refine go_seq_k fun K264 hK264 => ?_
                 refine go_region ?_
                 refine go_pvs 0 2 [0, 14, 15] hs (L' := [(0, .pointer (some ad29)), (14, .int .u32 (vx 0 a0.R (a1.B : Int).toNat)), (15, .int .u32 v55)]) (by kernel_rfl) ?_ rfl
                 clear hs; intro a hs
                 obtain ⟨⟨t266, t267, t268⟩, hx269, H⟩ := bind_some H
                 refine go_call hs (op := (Op.call { callee := (Callee.value (Operand.func 47)), args := #[(Operand.tmp 14), (Operand.tmp 15)], argTypes := #[22, 22] })) (ty := 59) (dst := some 16) (g := none) (by kernel_rfl) (by kernel_rfl) (by kernel_rfl) (f := 47) (args := #[.int .u32 (vx 0 a0.R (a1.B : Int).toNat), .int .u32 v55]) (by kernel_rfl) (word_Div.calls (vx 0 a0.R (a1.B : Int).toNat) v55 (t266, t267, t268) _ hx269) ?_
                 rintro e wd270 ⟨rfl, hw271⟩
                 refine ⟨_, rfl, ?_⟩
                 replace hw := hw.call hw271
                 intro a hs1
                 replace hs : Slots a 26 [(0, .pointer (some ad29)), (16, .tuple #[.int .u32 t266, .int .u32 t267, .bool t268])] := hs1.keep [0, 16] (by kernel_rfl)
                 clear hs1
                 refine go_pvs 3 10 [0, 10, 11, 12] hs (L' := [(0, .pointer (some ad29)), (10, .int .u32 t266), (11, .int .u32 t267), (12, .bool t268)]) (by kernel_rfl) ?_ rfl
                 clear hs; intro a hs
                 refine go_end (by kernel_rfl) ?_
                 refine hK264 _ _ ?_
                 refine go_seq_k fun K272 hK272 => ?_
                 refine go_region ?_
                 refine go_pvs 0 4 [10, 12, 21, 23] hs (L' := [(10, .int .u32 t266), (12, .bool t268), (21, .int .u32 t267), (23, .pointer (some ((ad29 : Addr).add 16)))]) (by kernel_rfl) ?_ rfl
                 clear hs; intro a hs
                 replace hw := hw.up 21
                 obtain ⟨wd273, hx274, hw⟩ := x_put (P := Try.prog) (ty := 0) (t := 22) (x := (Operand.tmp 23)) (y := (Operand.tmp 21)) (off := 16) (p := (ad29 : Addr).add 16) (v := .int .u32 t267) (vs := [.int .u32 t267]) (i := 0) (e' := (({ (a0 : Sapi_Regs) with H := t267 } : Sapi_Regs) : Sapi_Regs)) hs hw rfl (one_ok (a0 : Sapi_Regs)).1 (one_ok (a0 : Sapi_Regs)).2 (by kernel_rfl) (one_off _ _ _) (by kernel_rfl) rfl (by kernel_rfl) (Nat.le_of_ble_eq_true rfl) (by simp [Value.oneCell']) (by kernel_rfl)
                 refine go_unit hs (op := (Op.store 22 (Operand.tmp 23) (Operand.tmp 21))) (ty := 0) (dst := none) (g := none) (by kernel_rfl) (by kernel_rfl) (by kernel_rfl) hx274 [10, 12] (L' := [(10, .int .u32 t266), (12, .bool t268)]) (by kernel_rfl) ?_
                 clear hs; intro a hs
                 replace hw : St [] w0 wd273 [own 25 eSapi_Regs (some ad29) 1 [({ (a0 : Sapi_Regs) with H := t267 } : Sapi_Regs)], box g59 50 [.func (.func 35) #[] #[], .func (.func 58) #[] #[.pointer (some (⟨g78, 0, none⟩ : Addr))], .func (.func 58) #[] #[.pointer (some (⟨g74, 0, none⟩ : Addr))], .func (.func 58) #[] #[.pointer (some (⟨g70, 0, none⟩ : Addr))], .func (.func 58) #[] #[.pointer (some (⟨g67, 0, none⟩ : Addr))], .func (.func 58) #[] #[.pointer (some (⟨g65, 0, none⟩ : Addr))], .func (.func 58) #[] #[.pointer (some (⟨g63, 0, none⟩ : Addr))], .func (.func 58) #[] #[.pointer (some (⟨g61, 0, none⟩ : Addr))], .func (.func 40) #[] #[], .func (.func 42) #[] #[], .func (.func 44) #[] #[], .func (.func 46) #[] #[]], box g60 49 [.func (.func 58) #[] #[.pointer (some (⟨g61, 0, none⟩ : Addr))]], box g61 67 [.func (.func 39) #[] #[]], box g62 49 [.func (.func 58) #[] #[.pointer (some (⟨g63, 0, none⟩ : Addr))]], box g63 67 [.func (.func 38) #[] #[]], box g64 49 [.func (.func 58) #[] #[.pointer (some (⟨g65, 0, none⟩ : Addr))]], box g65 67 [.func (.func 37) #[] #[]], box g66 49 [.func (.func 58) #[] #[.pointer (some (⟨g67, 0, none⟩ : Addr))]], box g67 67 [.func (.func 36) #[] #[]], box g68 49 [.func (.func 58) #[] #[.pointer (some (⟨g70, 0, none⟩ : Addr))]], box g69 49 [.func (.func 58) #[] #[.pointer (some (⟨g70, 0, none⟩ : Addr))]], box g70 67 [.func (.func 33) #[] #[.pointer (some ad71)]], own 3 (eI .i64) (some ad71) 1 [3], box g72 49 [.func (.func 58) #[] #[.pointer (some (⟨g74, 0, none⟩ : Addr))]], box g73 49 [.func (.func 58) #[] #[.pointer (some (⟨g74, 0, none⟩ : Addr))]], box g74 67 [.func (.func 33) #[] #[.pointer (some ad75)]], own 3 (eI .i64) (some ad75) 1 [2], box g76 49 [.func (.func 58) #[] #[.pointer (some (⟨g78, 0, none⟩ : Addr))]], box g77 49 [.func (.func 58) #[] #[.pointer (some (⟨g78, 0, none⟩ : Addr))]], box g78 67 [.func (.func 33) #[] #[.pointer (some ad79)]], own 3 (eI .i64) (some ad79) 1 [1], own 25 eSapi_Regs (some ad10) 1 [(⟨(Vector.replicate 16 0), 0, false, false, false, false⟩ : Sapi_Regs)], own 27 eSapi_Instr (some ad6) 1 [a1], own 25 eSapi_Regs (some ad2) 1 [a0]] := hw
                 refine go_end (by kernel_rfl) ?_
                 refine hK272 _ _ ?_
                 refine go_seq_k fun K275 hK275 => ?_
                 refine go_region ?_
                 refine go_pvs 0 4 [8, 9] hs (L' := [(8, .int .u32 t266), (9, .bool t268)]) (by kernel_rfl) ?_ rfl
                 clear hs; intro a hs
                 refine go_end (by kernel_rfl) ?_
                 refine hK275 _ _ ?_
                 refine wp_ret ?_
                 refine ret2 (t1 := 8) (v1 := .int .u32 t266) (t2 := 9) (v2 := .bool t268) hs (by kernel_rfl) (by kernel_rfl) (by kernel_rfl) ?_
                 refine ⟨_, rfl, ?_⟩
                 refine hKR262 _ _ ?_
                 intro a hs1
                 have hs : Slots a _ [(2, .pointer (some ad2)), (3, .pointer (some ad6)), (4, .pointer (some ad10)), (6, .pointer (some ad29)), (47, .tuple #[.int .u32 t266, .bool t268])] := hs1.keep [2, 3, 4, 6, 47] (by kernel_rfl)
                 clear hs1
                 refine p_last ?_
                 refine e_pvs [14, 15, 16, 17, 18] [] [2, 3, 4, 6, 7, 9] hs (L' := [(2, .pointer (some ad2)), (3, .pointer (some ad6)), (4, .pointer (some ad10)), (6, .pointer (some ad29)), (7, .int .u32 t266), (9, .bool t268)]) (by kernel_rfl) ?_ (by kernel_rfl)
                 clear hs; intro a hs
                 refine e_end ?_
                 refine hK57 _ _ ?_
                 refine go_seq_k fun K276 hK276 => ?_
                 refine go_region ?_
                 refine go_pvs 0 2 [2, 3, 4, 6, 7, 51] hs (L' := [(2, .pointer (some ad2)), (3, .pointer (some ad6)), (4, .pointer (some ad10)), (6, .pointer (some ad29)), (7, .int .u32 t266), (51, .bool (!t268))]) (by kernel_rfl) ?_ rfl
                 clear hs; intro a hs
                 refine go_end (by kernel_rfl) ?_
                 refine hK276 _ _ ?_
                 refine go_cond hs (!t268) (by kernel_rfl) (fun hc => ?_) (fun hc => ?_)
                 ·replace H := ite_f H (ff (nt hc))
                  have hb277 := hc
                  rw [hb277] at hs
                  refine go_seq_k fun K278 hK278 => ?_
                  refine go_region ?_
                  refine go_run hs (op := (Op.load 25 (Operand.tmp 2))) (ty := 25) (dst := some 52) (g := none) (by kernel_rfl) (by kernel_rfl) (by kernel_rfl) (x_lds (E := eSapi_Regs) (off := 0) (p := ad2) (cs := (eSapi_Regs.enc a0)) (Rd.of_own (hw.up 24)) (one_ok a0).1 (one_ok a0).2 (by kernel_rfl) (one_at _ _) (by kernel_rfl) (by kernel_rfl) (by kernel_rfl)) [4, 52] (L' := [(4, .pointer (some ad10)), (52, .agg (eSapi_Regs.enc a0).toArray)]) (by kernel_rfl) ?_
                  clear hs; intro a hs
                  replace hw := hw.up 22
                  obtain ⟨wd279, hx280, hw⟩ := x_put (P := Try.prog) (ty := 0) (t := 25) (x := (Operand.tmp 4)) (y := (Operand.tmp 52)) (off := 0) (p := ad10) (v := .agg (eSapi_Regs.enc a0).toArray) (vs := (eSapi_Regs.enc a0)) (i := 0) (e' := ((a0 : Sapi_Regs) : Sapi_Regs)) hs hw rfl (one_ok (⟨(Vector.replicate 16 0), 0, false, false, false, false⟩ : Sapi_Regs)).1 (one_ok (⟨(Vector.replicate 16 0), 0, false, false, false, false⟩ : Sapi_Regs)).2 (by kernel_rfl) (one_at _ _) (by kernel_rfl) rfl (by kernel_rfl) (Nat.le_of_ble_eq_true rfl) (eSapi_Regs.one _) (by kernel_rfl)
                  refine go_unit hs (op := (Op.store 25 (Operand.tmp 4) (Operand.tmp 52))) (ty := 0) (dst := none) (g := none) (by kernel_rfl) (by kernel_rfl) (by kernel_rfl) hx280 [4] (L' := [(4, .pointer (some ad10))]) (by kernel_rfl) ?_
                  clear hs; intro a hs
                  replace hw : St [] w0 wd279 [own 25 eSapi_Regs (some ad10) 1 [(a0 : Sapi_Regs)], own 25 eSapi_Regs (some ad29) 1 [({ (a0 : Sapi_Regs) with H := t267 } : Sapi_Regs)], box g59 50 [.func (.func 35) #[] #[], .func (.func 58) #[] #[.pointer (some (⟨g78, 0, none⟩ : Addr))], .func (.func 58) #[] #[.pointer (some (⟨g74, 0, none⟩ : Addr))], .func (.func 58) #[] #[.pointer (some (⟨g70, 0, none⟩ : Addr))], .func (.func 58) #[] #[.pointer (some (⟨g67, 0, none⟩ : Addr))], .func (.func 58) #[] #[.pointer (some (⟨g65, 0, none⟩ : Addr))], .func (.func 58) #[] #[.pointer (some (⟨g63, 0, none⟩ : Addr))], .func (.func 58) #[] #[.pointer (some (⟨g61, 0, none⟩ : Addr))], .func (.func 40) #[] #[], .func (.func 42) #[] #[], .func (.func 44) #[] #[], .func (.func 46) #[] #[]], box g60 49 [.func (.func 58) #[] #[.pointer (some (⟨g61, 0, none⟩ : Addr))]], box g61 67 [.func (.func 39) #[] #[]], box g62 49 [.func (.func 58) #[] #[.pointer (some (⟨g63, 0, none⟩ : Addr))]], box g63 67 [.func (.func 38) #[] #[]], box g64 49 [.func (.func 58) #[] #[.pointer (some (⟨g65, 0, none⟩ : Addr))]], box g65 67 [.func (.func 37) #[] #[]], box g66 49 [.func (.func 58) #[] #[.pointer (some (⟨g67, 0, none⟩ : Addr))]], box g67 67 [.func (.func 36) #[] #[]], box g68 49 [.func (.func 58) #[] #[.pointer (some (⟨g70, 0, none⟩ : Addr))]], box g69 49 [.func (.func 58) #[] #[.pointer (some (⟨g70, 0, none⟩ : Addr))]], box g70 67 [.func (.func 33) #[] #[.pointer (some ad71)]], own 3 (eI .i64) (some ad71) 1 [3], box g72 49 [.func (.func 58) #[] #[.pointer (some (⟨g74, 0, none⟩ : Addr))]], box g73 49 [.func (.func 58) #[] #[.pointer (some (⟨g74, 0, none⟩ : Addr))]], box g74 67 [.func (.func 33) #[] #[.pointer (some ad75)]], own 3 (eI .i64) (some ad75) 1 [2], box g76 49 [.func (.func 58) #[] #[.pointer (some (⟨g78, 0, none⟩ : Addr))]], box g77 49 [.func (.func 58) #[] #[.pointer (some (⟨g78, 0, none⟩ : Addr))]], box g78 67 [.func (.func 33) #[] #[.pointer (some ad79)]], own 3 (eI .i64) (some ad79) 1 [1], own 27 eSapi_Instr (some ad6) 1 [a1], own 25 eSapi_Regs (some ad2) 1 [a0]] := hw
                  refine go_pvs 2 3 [4, 5] hs (L' := [(4, .pointer (some ad10)), (5, .int .i64 5)]) (by kernel_rfl) ?_ rfl
                  clear hs; intro a hs
                  refine go_end (by kernel_rfl) ?_
                  refine hK278 _ _ ?_
                  refine wp_ret ?_
                  refine ib_ret ?_
                  refine th_ret ?_
                  obtain rfl := Option.some.inj H
                  refine ret2g (L := [(4, .pointer (some ad10)), (5, .int .i64 5)]) (r1 := .cell 4 25) (v1 := .agg (eSapi_Regs.enc (a0 : Sapi_Regs)).toArray) (r2 := .tmp 5) (v2 := .int .i64 5) hs (by kernel_rfl) ⟨_, (show lk 4 [(4, .pointer (some ad10)), (5, .int .i64 5)] = some (.pointer (some ad10)) by kernel_rfl), lv_row (E := eSapi_Regs) (x := (a0 : Sapi_Regs)) (by kernel_rfl) (by kernel_rfl) (Rd.of_own (hw.up 0))⟩ (show lk 5 [(4, .pointer (some ad10)), (5, .int .i64 5)] = some (.int .i64 5) by kernel_rfl) ?_
                  exact ⟨rfl, hw.only 0⟩
                 ·replace H := ite_t H (nf hc)
                  have hb281 := hc
                  rw [hb281] at hs
                  refine wp_skip ?_
                  refine ib_norm ?_
                  replace hw := hw.up 24
                  replace hw := hw.up 24
                  replace hw := hw.up 24
                  replace hw := hw.up 3
                  replace hw := hw.only 4
                  exact hJ7 ({ (a0 : Sapi_Regs) with H := t267 } : Sapi_Regs) t266 _ _ (hs.keep [3, 4, 6, 7] (by kernel_rfl)) hw H
                ·replace H := ite_f H hk261
                 cases H
    refine go_seq_k fun K52 hK52 => ?_
    refine go_region ?_
    refine go_pvs 0 1 [2, 3, 4, 6, 8, 27] hs (L' := [(2, .pointer (some ad2)), (3, .pointer (some ad6)), (4, .pointer (some ad10)), (6, .pointer (some ad29)), (8, .int .u32 (vx 0 a0.R (a1.C : Int).toNat)), (27, .pointer (some ((ad6 : Addr).add 0)))]) (by kernel_rfl) ?_ rfl
    clear hs; intro a hs
    refine go_run hs (op := (Op.load 3 (Operand.tmp 27))) (ty := 3) (dst := some 28) (g := none) (by kernel_rfl) (by kernel_rfl) (by kernel_rfl) (x_ld (E := eSapi_Instr) (off := 0) (p := (ad6 : Addr).add 0) (v := .int .i64 a1.Kind) (Rd.of_own (hw.up 2)) (one_ok a1).1 (one_ok a1).2 (by kernel_rfl) (one_off _ _ _) (by kernel_rfl) (by kernel_rfl)) [2, 3, 4, 6, 8, 28] (L' := [(2, .pointer (some ad2)), (3, .pointer (some ad6)), (4, .pointer (some ad10)), (6, .pointer (some ad29)), (8, .int .u32 (vx 0 a0.R (a1.C : Int).toNat)), (28, .int .i64 a1.Kind)]) (by kernel_rfl) ?_
    clear hs; intro a hs
    refine go_pvs 2 3 [2, 3, 4, 6, 8, 29] hs (L' := [(2, .pointer (some ad2)), (3, .pointer (some ad6)), (4, .pointer (some ad10)), (6, .pointer (some ad29)), (8, .int .u32 (vx 0 a0.R (a1.C : Int).toNat)), (29, .bool (a1.Kind == 2))]) (by kernel_rfl) ?_ rfl
    clear hs; intro a hs
    refine go_end (by kernel_rfl) ?_
    refine hK52 _ _ ?_
    refine go_cond hs (a1.Kind == 2) (by kernel_rfl) (fun hc => ?_) (fun hc => ?_)
    ·replace H := ite_t H (beq_iff_eq.1 hc)
     have hb53 := hc
     rw [hb53] at hs
     refine go_region ?_
     refine go_pvs 0 1 [2, 3, 4, 6, 30] hs (L' := [(2, .pointer (some ad2)), (3, .pointer (some ad6)), (4, .pointer (some ad10)), (6, .pointer (some ad29)), (30, .pointer (some ((ad6 : Addr).add 5)))]) (by kernel_rfl) ?_ rfl
     clear hs; intro a hs
     refine go_run hs (op := (Op.load 3 (Operand.tmp 30))) (ty := 3) (dst := some 31) (g := none) (by kernel_rfl) (by kernel_rfl) (by kernel_rfl) (x_ld (E := eSapi_Instr) (off := 5) (p := (ad6 : Addr).add 5) (v := .int .i64 a1.Imm) (Rd.of_own (hw.up 2)) (one_ok a1).1 (one_ok a1).2 (by kernel_rfl) (one_off _ _ _) (by kernel_rfl) (by kernel_rfl)) [2, 3, 4, 6, 31] (L' := [(2, .pointer (some ad2)), (3, .pointer (some ad6)), (4, .pointer (some ad10)), (6, .pointer (some ad29)), (31, .int .i64 a1.Imm)]) (by kernel_rfl) ?_
     clear hs; intro a hs
     refine go_pvs 2 4 [2, 3, 4, 6, 8] hs (L' := [(2, .pointer (some ad2)), (3, .pointer (some ad6)), (4, .pointer (some ad10)), (6, .pointer (some ad29)), (8, .int .u32 (wu32 a1.Imm))]) (by kernel_rfl) ?_ rfl
     clear hs; intro a hs
     refine go_end (by kernel_rfl) ?_
     replace hw := hw.up 3
     replace hw := hw.up 3
     replace hw := hw.up 3
     replace hw := hw.up 3
     replace hw := hw.only 4
     exact hJ3 (wu32 a1.Imm) _ _ (hs.keep [2, 3, 4, 6, 8] (by kernel_rfl)) hw H
    ·replace H := ite_f H (beq_eq_false_iff_ne.1 hc)
     have hb54 := hc
     rw [hb54] at hs
     refine wp_skip ?_
     replace hw := hw.up 3
     replace hw := hw.up 3
     replace hw := hw.up 3
     replace hw := hw.up 3
     replace hw := hw.only 4
     exact hJ3 (vx 0 a0.R (a1.C : Int).toNat) _ _ (hs.keep [2, 3, 4, 6, 8] (by kernel_rfl)) hw H
 refine go_seq_k fun K15 hK15 => ?_
 have hJ1 : ∀ (v22 : Bool) (a : Act) (w : World), Slots a 69 [(2, .pointer (some ad2)), (3, .pointer (some ad6)), (4, .pointer (some ad10)), (17, .bool v22)] → St [] w0 w [own 25 eSapi_Regs (some ad10) 1 [(⟨(Vector.replicate 16 0), 0, false, false, false, false⟩ : Sapi_Regs)], own 27 eSapi_Instr (some ad6) 1 [a1], own 25 eSapi_Regs (some ad2) 1 [a0]] → alu_Do.j1 a0 a1 v22 = some r → K15 a w := by
  intro v22 a w hs hw H
  unfold alu_Do.j1 at H
  refine hK15 _ _ ?_
  refine go_cond hs v22 (by kernel_rfl) (fun hc => ?_) (fun hc => ?_)
  ·replace H := ite_t H hc
   have hb23 := hc
   rw [hb23] at hs
   refine go_seq_k fun K24 hK24 => ?_
   refine go_region ?_
   refine go_run hs (op := (Op.load 25 (Operand.tmp 2))) (ty := 25) (dst := some 18) (g := none) (by kernel_rfl) (by kernel_rfl) (by kernel_rfl) (x_lds (E := eSapi_Regs) (off := 0) (p := ad2) (cs := (eSapi_Regs.enc a0)) (Rd.of_own (hw.up 2)) (one_ok a0).1 (one_ok a0).2 (by kernel_rfl) (one_at _ _) (by kernel_rfl) (by kernel_rfl) (by kernel_rfl)) [4, 18] (L' := [(4, .pointer (some ad10)), (18, .agg (eSapi_Regs.enc a0).toArray)]) (by kernel_rfl) ?_
   clear hs; intro a hs
   obtain ⟨wd25, hx26, hw⟩ := x_put (P := Try.prog) (ty := 0) (t := 25) (x := (Operand.tmp 4)) (y := (Operand.tmp 18)) (off := 0) (p := ad10) (v := .agg (eSapi_Regs.enc a0).toArray) (vs := (eSapi_Regs.enc a0)) (i := 0) (e' := ((a0 : Sapi_Regs) : Sapi_Regs)) hs hw rfl (one_ok (⟨(Vector.replicate 16 0), 0, false, false, false, false⟩ : Sapi_Regs)).1 (one_ok (⟨(Vector.replicate 16 0), 0, false, false, false, false⟩ : Sapi_Regs)).2 (by kernel_rfl) (one_at _ _) (by kernel_rfl) rfl (by kernel_rfl) (Nat.le_of_ble_eq_true rfl) (eSapi_Regs.one _) (by kernel_rfl)
   refine go_unit hs (op := (Op.store 25 (Operand.tmp 4) (Operand.tmp 18))) (ty := 0) (dst := none) (g := none) (by kernel_rfl) (by kernel_rfl) (by kernel_rfl) hx26 [4] (L' := [(4, .pointer (some ad10))]) (by kernel_rfl) ?_
   clear hs; intro a hs
   replace hw : St [] w0 wd25 [own 25 eSapi_Regs (some ad10) 1 [(a0 : Sapi_Regs)], own 27 eSapi_Instr (some ad6) 1 [a1], own 25 eSapi_Regs (some ad2) 1 [a0]] := hw
   refine go_pvs 2 3 [4, 5] hs (L' := [(4, .pointer (some ad10)), (5, .int .i64 0)]) (by kernel_rfl) ?_ rfl
   clear hs; intro a hs
   refine go_end (by kernel_rfl) ?_
   refine hK24 _ _ ?_
   refine wp_ret ?_
   refine th_ret ?_
   obtain rfl := Option.some.inj H
   refine ret2g (L := [(4, .pointer (some ad10)), (5, .int .i64 0)]) (r1 := .cell 4 25) (v1 := .agg (eSapi_Regs.enc (a0 : Sapi_Regs)).toArray) (r2 := .tmp 5) (v2 := .int .i64 0) hs (by kernel_rfl) ⟨_, (show lk 4 [(4, .pointer (some ad10)), (5, .int .i64 0)] = some (.pointer (some ad10)) by kernel_rfl), lv_row (E := eSapi_Regs) (x := (a0 : Sapi_Regs)) (by kernel_rfl) (by kernel_rfl) (Rd.of_own (hw.up 0))⟩ (show lk 5 [(4, .pointer (some ad10)), (5, .int .i64 0)] = some (.int .i64 0) by kernel_rfl) ?_
   exact ⟨rfl, hw.only 0⟩
  ·replace H := ite_f H (ff hc)
   have hb27 := hc
   rw [hb27] at hs
   refine wp_skip ?_
   replace hw := hw.up 2
   replace hw := hw.up 2
   replace hw := hw.up 2
   replace hw := hw.only 3
   exact hJ2 _ _ (hs.keep [2, 3, 4] (by kernel_rfl)) hw H
 refine go_region ?_
 refine go_run hs (op := (Op.load 27 (Operand.tmp 3))) (ty := 27) (dst := some 10) (g := none) (by kernel_rfl) (by kernel_rfl) (by kernel_rfl) (x_lds (E := eSapi_Instr) (off := 0) (p := ad6) (cs := (eSapi_Instr.enc a1)) (Rd.of_own (hw.up 1)) (one_ok a1).1 (one_ok a1).2 (by kernel_rfl) (one_at _ _) (by kernel_rfl) (by kernel_rfl) (by kernel_rfl)) [2, 3, 4, 10] (L' := [(2, .pointer (some ad2)), (3, .pointer (some ad6)), (4, .pointer (some ad10)), (10, .agg (eSapi_Instr.enc a1).toArray)]) (by kernel_rfl) ?_
 clear hs; intro a hs
 obtain ⟨t17, hx18, H⟩ := bind_some H
 refine go_call hs (op := (Op.call { callee := (Callee.value (Operand.func 17)), args := #[(Operand.tmp 10)], argTypes := #[27] })) (ty := 4) (dst := some 11) (g := none) (by kernel_rfl) (by kernel_rfl) (by kernel_rfl) (f := 17) (args := #[.agg (eSapi_Instr.enc a1).toArray]) (by kernel_rfl) (isa_May.calls a1 t17 _ hx18) ?_
 rintro e wd19 ⟨rfl, hw20⟩
 refine ⟨_, rfl, ?_⟩
 replace hw := hw.call hw20
 intro a hs1
 replace hs : Slots a 69 [(2, .pointer (some ad2)), (3, .pointer (some ad6)), (4, .pointer (some ad10)), (11, .bool t17)] := hs1.keep [2, 3, 4, 11] (by kernel_rfl)
 clear hs1
 refine go_pvs 2 4 [2, 3, 4, 13] hs (L' := [(2, .pointer (some ad2)), (3, .pointer (some ad6)), (4, .pointer (some ad10)), (13, .bool (!t17))]) (by kernel_rfl) ?_ rfl
 clear hs; intro a hs
 cases hb21 : (!t17)
 ·replace H := ite_t H (nf hb21)
  rw [hb21] at hs
  refine go_pvs 4 5 [2, 3, 4, 13, 14] hs (L' := [(2, .pointer (some ad2)), (3, .pointer (some ad6)), (4, .pointer (some ad10)), (13, .bool false), (14, .pointer (some ((ad6 : Addr).add 0)))]) (by kernel_rfl) ?_ rfl
  clear hs; intro a hs
  refine go_run hs (op := (Op.load 3 (Operand.tmp 14))) (ty := 3) (dst := some 15) (g := some (3, false)) (by kernel_rfl) (by kernel_rfl) (by kernel_rfl) (x_ld (E := eSapi_Instr) (off := 0) (p := (ad6 : Addr).add 0) (v := .int .i64 a1.Kind) (Rd.of_own (hw.up 1)) (one_ok a1).1 (one_ok a1).2 (by kernel_rfl) (one_off _ _ _) (by kernel_rfl) (by kernel_rfl)) [2, 3, 4, 13, 15] (L' := [(2, .pointer (some ad2)), (3, .pointer (some ad6)), (4, .pointer (some ad10)), (13, .bool false), (15, .int .i64 a1.Kind)]) (by kernel_rfl) ?_
  clear hs; intro a hs
  refine go_pvs 6 8 [2, 3, 4, 17] hs (L' := [(2, .pointer (some ad2)), (3, .pointer (some ad6)), (4, .pointer (some ad10)), (17, .bool (decide (a1.Kind ≥ 5)))]) (by kernel_rfl) ?_ rfl
  clear hs; intro a hs
  refine go_end (by kernel_rfl) ?_
  replace hw := hw.up 2
  replace hw := hw.up 2
  replace hw := hw.up 2
  replace hw := hw.only 3
  exact hJ1 (decide (a1.Kind ≥ 5)) _ _ (hs.keep [2, 3, 4, 17] (by kernel_rfl)) hw H
 ·replace H := ite_f H (ff (nt hb21))
  rw [hb21] at hs
  refine go_pvs 4 8 [2, 3, 4, 17] hs (L' := [(2, .pointer (some ad2)), (3, .pointer (some ad6)), (4, .pointer (some ad10)), (17, .bool true)]) (by kernel_rfl) ?_ rfl
  clear hs; intro a hs
  refine go_end (by kernel_rfl) ?_
  replace hw := hw.up 2
  replace hw := hw.up 2
  replace hw := hw.up 2
  replace hw := hw.only 3
  exact hJ1 true _ _ (hs.keep [2, 3, 4, 17] (by kernel_rfl)) hw H

/-! rivet/rivetref01.one: function 50 -/
noncomputable def rivetref01_one (a0 : Bool) : Option Int := (if a0 = true then some 1 else some 0)
set_option maxRecDepth 100000 in
set_option maxHeartbeats 4000000 in
theorem rivetref01_one.calls (a0 : Bool) (r : Int) (w0 : World) (H : rivetref01_one a0 = some r) :
    Calls Try.prog 50 #[.bool a0] w0 fun e w' => e = .returned (.int .i64 r) ∧ St [] w0 w' [] := by
 have hw : St [] w0 w0 [] := St.nil w0
 unfold rivetref01_one at H
 refine go_fn Try.func50 rfl 4 Try.ntmps50 [(0, .bool a0)] (by kernel_rfl) rfl ?_
 intro a hs
 refine go_seq_k fun K1 hK1 => ?_
 refine go_region ?_
 refine go_pvs 0 1 [0] hs (L' := [(0, .bool a0)]) (by kernel_rfl) ?_ rfl
 clear hs; intro a hs
 refine go_end (by kernel_rfl) ?_
 refine hK1 _ _ ?_
 refine go_seq_k fun K2 hK2 => ?_
 refine go_seq_k fun K3 hK3 => ?_
 refine go_region ?_
 refine go_pvs 0 1 [3] hs (L' := [(3, .bool a0)]) (by kernel_rfl) ?_ rfl
 clear hs; intro a hs
 refine go_end (by kernel_rfl) ?_
 refine hK3 _ _ ?_
 refine go_cond hs a0 (by kernel_rfl) (fun hc => ?_) (fun hc => ?_)
 ·replace H := ite_t H hc
  have hb4 := hc
  rw [hb4] at hs
  refine go_seq_k fun K5 hK5 => ?_
  refine go_region ?_
  refine go_pvs 0 1 [2] hs (L' := [(2, .int .i64 1)]) (by kernel_rfl) ?_ rfl
  clear hs; intro a hs
  refine go_end (by kernel_rfl) ?_
  refine hK5 _ _ ?_
  refine wp_ret ?_
  refine th_ret ?_
  obtain rfl := Option.some.inj H
  refine ret1 (t := 2) (v := .int .i64 1) hs (by kernel_rfl) (by kernel_rfl) ?_
  exact ⟨rfl, hw.only 0⟩
 ·replace H := ite_f H (ff hc)
  have hb6 := hc
  rw [hb6] at hs
  refine wp_skip ?_
  refine hK2 _ _ ?_
  refine go_seq_k fun K7 hK7 => ?_
  refine go_region ?_
  refine go_pvs 0 1 [2] hs (L' := [(2, .int .i64 0)]) (by kernel_rfl) ?_ rfl
  clear hs; intro a hs
  refine go_end (by kernel_rfl) ?_
  refine hK7 _ _ ?_
  refine wp_ret ?_
  obtain rfl := Option.some.inj H
  refine ret1 (t := 2) (v := .int .i64 0) hs (by kernel_rfl) (by kernel_rfl) ?_
  exact ⟨rfl, hw.only 0⟩

/-! rivet/rivetref01.out: function 51 -/
noncomputable def rivetref01_out.j1 (v4 : Bool) : Option Bool := some v4
noncomputable def rivetref01_out (a0 : Int) : Option Bool := (if a0 < (-2147483648) then rivetref01_out.j1 true else rivetref01_out.j1 (decide (a0 ≥ 2147483648)))
set_option maxRecDepth 100000 in
set_option maxHeartbeats 4000000 in
theorem rivetref01_out.calls (a0 : Int) (r : Bool) (w0 : World) (H : rivetref01_out a0 = some r) :
    Calls Try.prog 51 #[.int .i64 a0] w0 fun e w' => e = .returned (.bool r) ∧ St [] w0 w' [] := by
 have hw : St [] w0 w0 [] := St.nil w0
 unfold rivetref01_out at H
 refine go_fn Try.func51 rfl 9 Try.ntmps51 [(0, .int .i64 a0)] (by kernel_rfl) rfl ?_
 intro a hs
 refine go_seq_k fun K1 hK1 => ?_
 refine go_region ?_
 refine go_pvs 0 1 [0] hs (L' := [(0, .int .i64 a0)]) (by kernel_rfl) ?_ rfl
 clear hs; intro a hs
 refine go_end (by kernel_rfl) ?_
 refine hK1 _ _ ?_
 refine go_seq_k fun K2 hK2 => ?_
 have hJ1 : ∀ (v4 : Bool) (a : Act) (w : World), Slots a 9 [(2, .bool v4)] → St [] w0 w [] → rivetref01_out.j1 v4 = some r → K2 a w := by
  intro v4 a w hs hw H
  unfold rivetref01_out.j1 at H
  refine hK2 _ _ ?_
  refine wp_ret ?_
  obtain rfl := Option.some.inj H
  refine ret1 (t := 2) (v := .bool v4) hs (by kernel_rfl) (by kernel_rfl) ?_
  exact ⟨rfl, hw.only 0⟩
 refine go_region ?_
 refine go_pvs 0 3 [0, 5] hs (L' := [(0, .int .i64 a0), (5, .bool (decide (a0 < (-2147483648))))]) (by kernel_rfl) ?_ rfl
 clear hs; intro a hs
 cases hb3 : (decide (a0 < (-2147483648)))
 ·replace H := ite_f H (of_decide_eq_false hb3)
  rw [hb3] at hs
  refine go_pvs 3 7 [2] hs (L' := [(2, .bool (decide (a0 ≥ 2147483648)))]) (by kernel_rfl) ?_ rfl
  clear hs; intro a hs
  refine go_end (by kernel_rfl) ?_
  replace hw := hw.only 0
  exact hJ1 (decide (a0 ≥ 2147483648)) _ _ (hs.keep [2] (by kernel_rfl)) hw H
 ·replace H := ite_t H (of_decide_eq_true hb3)
  rw [hb3] at hs
  refine go_pvs 3 7 [2] hs (L' := [(2, .bool true)]) (by kernel_rfl) ?_ rfl
  clear hs; intro a hs
  refine go_end (by kernel_rfl) ?_
  replace hw := hw.only 0
  exact hJ1 true _ _ (hs.keep [2] (by kernel_rfl)) hw H

end Go.Proofs.Ytckefpenekolhaa.T04
