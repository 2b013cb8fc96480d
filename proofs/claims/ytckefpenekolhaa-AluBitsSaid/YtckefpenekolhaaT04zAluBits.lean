/- YtckefpenekolhaaT04zAluBits: Go functions told as plain ones, each with a proof that its call comes to what is told, part 1. Condition of each: that the plain function comes to a value. -/
import Derived.Test.YtckefpenekolhaaT04
import Derived.Test.YtckefpenekolhaaEJ
import Derived.Test.YtckefpenekolhaaProg
namespace Go.Proofs.Ytckefpenekolhaa.T04
open Go Go.RowKit Go.Proofs.Ytckefpenekolhaa.E
set_option linter.unusedVariables false
set_option linter.unusedSimpArgs false
def eA36 : Enc (Vector Int 4) := ⟨4, fun x => [.int .u32 (vx 0 x 0), .int .u32 (vx 0 x 1), .int .u32 (vx 0 x 2), .int .u32 (vx 0 x 3)], (Vector.replicate 4 0), by decide, fun _ => rfl, fun x u hu => by simp at hu; rcases hu with rfl | rfl | rfl | rfl <;> rfl⟩
/-! rivet/rivetlaw04.AluBits: function 5 -/
noncomputable def rivetlaw04_AluBits.j3 (v99 : Bool) : Option Bool := some v99
noncomputable def rivetlaw04_AluBits.j2 (t8 : Bool) (v56 : Vector Int 4) (a1 : Int) (a2 : Int) (t59 : Sapi_Regs) (a0 : Sapi_Regs) (v90 : Bool) : Option Bool := (if t8 = true then (if (bor .u32 (vx 0 v56 0) (vx 0 v56 1)) = a1 then (if (band .u32 (vx 0 v56 0) (vx 0 v56 1)) = 0 then (if (vx 0 v56 2) = (bor .u32 (vx 0 v56 0) (vx 0 v56 3)) then (if (band .u32 (vx 0 v56 0) (vx 0 v56 3)) = 0 then (if (vx 0 v56 3) = (bxor .u32 a1 a2) then (if (vx 0 ((t59 : Sapi_Regs).R) 4) = a0.H then rivetlaw04_AluBits.j3 v90 else rivetlaw04_AluBits.j3 false) else rivetlaw04_AluBits.j3 false) else rivetlaw04_AluBits.j3 false) else rivetlaw04_AluBits.j3 false) else rivetlaw04_AluBits.j3 false) else rivetlaw04_AluBits.j3 false) else rivetlaw04_AluBits.j3 false)
noncomputable def rivetlaw04_AluBits.j1 (a0 : Sapi_Regs) (a1 : Int) (a2 : Int) (t8 : Bool) (v56 : Vector Int 4) : Option Bool := ((alu_Do ({ ({ a0 with R := vset a0.R 1 a1 } : Sapi_Regs) with R := vset (vset a0.R 1 a1) 2 a2 } : Sapi_Regs) (⟨3, 0, 4, 0, 0, 0, false⟩ : Sapi_Instr)).bind fun ⟨t59, t60⟩ => (((alu_Do ({ ({ a0 with R := vset a0.R 1 a1 } : Sapi_Regs) with R := vset (vset a0.R 1 a1) 2 a2 } : Sapi_Regs) (⟨4, 0, 5, 0, 0, 0, false⟩ : Sapi_Instr)).bind fun ⟨t72, t73⟩ => ((nm (vx 0 ((t72 : Sapi_Regs).R) 5) fun y84 => (if (((y84.fdiv (2 ^ 31)) == 1) == a0.N) = true then (if (((band .u32 (y84.fdiv (2 ^ 30)) 1) == 1) == a0.Z) = true then (if (((band .u32 (y84.fdiv (2 ^ 29)) 1) == 1) == a0.C) = true then (if (((band .u32 (y84.fdiv (2 ^ 28)) 1) == 1) == a0.V) = true then rivetlaw04_AluBits.j2 t8 v56 a1 a2 t59 a0 ((wu32 (y84 * 2 ^ 4)) == 0) else rivetlaw04_AluBits.j2 t8 v56 a1 a2 t59 a0 false) else rivetlaw04_AluBits.j2 t8 v56 a1 a2 t59 a0 false) else rivetlaw04_AluBits.j2 t8 v56 a1 a2 t59 a0 false) else rivetlaw04_AluBits.j2 t8 v56 a1 a2 t59 a0 false))))))
noncomputable def rivetlaw04_AluBits.b27 (a0 : Sapi_Regs) (a1 : Int) (a2 : Int) (v28 : Vector Int 4) (v29 : Int) : Option ((Vector Int 4) × Int ⊕ (Ex Bool (Vector Int 4))) := (if v29 < 4 then ((alu_Do ({ ({ a0 with R := vset a0.R 1 a1 } : Sapi_Regs) with R := vset (vset a0.R 1 a1) 2 a2 } : Sapi_Regs) (⟨1, w64 (4 + v29), 3, 1, 2, 0, false⟩ : Sapi_Instr)).bind fun ⟨t36, t37⟩ => ((if t37 = 0 then (if 0 ≤ v29 ∧ v29 < ((4 : Nat) : Int) then some (.inl (vset v28 (v29 : Int).toNat (vx 0 ((t36 : Sapi_Regs).R) 3), w64 (v29 + 1))) else none) else some (.inr (.ret false))))) else some (.inr (.done v28)))
noncomputable def rivetlaw04_AluBits (a0 : Sapi_Regs) (a1 : Int) (a2 : Int) : Option Bool := ((rivetlaw04_shown).bind fun t8 => (((loopO (fun (σ : (Vector Int 4) × Int) => rivetlaw04_AluBits.b27 a0 a1 a2 σ.1 σ.2) ((#v[0, 0, 0, 0] : Vector Int 4), 0)).bind fun e => match e with | .ret x => some x | .done e => rivetlaw04_AluBits.j1 a0 a1 a2 t8 e)))
set_option maxRecDepth 100000 in
set_option maxHeartbeats 4000000 in
theorem rivetlaw04_AluBits.calls (a0 : Sapi_Regs) (a1 : Int) (a2 : Int) (r : Bool) (w0 : World) (H : rivetlaw04_AluBits a0 a1 a2 = some r) :
    Calls Try.prog 5 #[.agg (eSapi_Regs.enc a0).toArray, .int .u32 a1, .int .u32 a2] w0 fun e w' => e = .returned (.bool r) ∧ St [] w0 w' [] := by
 have hw : St [] w0 w0 [] := St.nil w0
 unfold rivetlaw04_AluBits at H
 refine go_fn Try.func5 rfl 153 Try.ntmps5 [(0, .agg (eSapi_Regs.enc a0).toArray), (1, .int .u32 a1), (2, .int .u32 a2)] (by kernel_rfl) rfl ?_
 intro a hs
 refine go_seq_k fun K1 hK1 => ?_
 refine go_region ?_
 obtain ⟨ad2, wd3, hx4, hw⟩ := x_box1 (P := Try.prog) (elem := 25) (v := (Operand.tmp 0)) (ty := 0) hs hw eSapi_Regs a0 (by kernel_rfl)
 refine go_run hs (op := (Op.box 25 (Operand.tmp 0))) (ty := 0) (dst := some 3) (g := none) (by kernel_rfl) (by kernel_rfl) (by kernel_rfl) hx4 [1, 2, 3] (L' := [(1, .int .u32 a1), (2, .int .u32 a2), (3, .pointer (some ad2))]) (by kernel_rfl) ?_
 clear hs; intro a hs
 refine go_pvs 1 2 [1, 2, 3] hs (L' := [(1, .int .u32 a1), (2, .int .u32 a2), (3, .pointer (some ad2))]) (by kernel_rfl) ?_ rfl
 clear hs; intro a hs
 refine go_end (by kernel_rfl) ?_
 refine hK1 _ _ ?_
 refine go_seq_k fun K6 hK6 => ?_
 refine go_region ?_
 obtain ⟨t8, hx9, H⟩ := bind_some H
 refine go_call hs (op := (Op.call { callee := (Callee.value (Operand.func 10)), args := #[], argTypes := #[] })) (ty := 4) (dst := some 18) (g := none) (by kernel_rfl) (by kernel_rfl) (by kernel_rfl) (f := 10) (args := #[]) (by kernel_rfl) (rivetlaw04_shown.calls t8 _ hx9) ?_
 rintro e wd10 ⟨rfl, hw11⟩
 refine ⟨_, rfl, ?_⟩
 replace hw := hw.call hw11
 intro a hs1
 replace hs : Slots a 153 [(1, .int .u32 a1), (2, .int .u32 a2), (3, .pointer (some ad2)), (18, .bool t8)] := hs1.keep [1, 2, 3, 18] (by kernel_rfl)
 clear hs1
 refine go_pvs 1 2 [1, 2, 3, 7] hs (L' := [(1, .int .u32 a1), (2, .int .u32 a2), (3, .pointer (some ad2)), (7, .bool t8)]) (by kernel_rfl) ?_ rfl
 clear hs; intro a hs
 refine go_end (by kernel_rfl) ?_
 refine hK6 _ _ ?_
 refine go_seq_k fun K12 hK12 => ?_
 refine go_region ?_
 refine go_pvs 0 2 [1, 2, 3, 7, 19, 20] hs (L' := [(1, .int .u32 a1), (2, .int .u32 a2), (3, .pointer (some ad2)), (7, .bool t8), (19, .int .u32 a1), (20, .pointer (some ((ad2 : Addr).add 0)))]) (by kernel_rfl) ?_ rfl
 clear hs; intro a hs
 refine go_run hs (op := (Op.indexAddr 23 (Operand.tmp 20) (Operand.const (Value.int IntKind.i64 1)))) (ty := 0) (dst := some 21) (g := none) (by kernel_rfl) (by kernel_rfl) (by kernel_rfl) (x_vidx (e := 22) (p := (ad2 : Addr).add 0) (n := 16) (k := .i64) (i := 1) (sz := 1) (by kernel_rfl) (by kernel_rfl) (by kernel_rfl) (by kernel_rfl) (⟨by decide, by decide⟩ : (0 : Int) ≤ 1 ∧ (1 : Int) < ((16 : Nat) : Int)).1 (⟨by decide, by decide⟩ : (0 : Int) ≤ 1 ∧ (1 : Int) < ((16 : Nat) : Int)).2) [1, 2, 3, 7, 19, 21] (L' := [(1, .int .u32 a1), (2, .int .u32 a2), (3, .pointer (some ad2)), (7, .bool t8), (19, .int .u32 a1), (21, .pointer (some (((ad2 : Addr).add 0 : Addr).add ((1 : Int).toNat * 1))))]) (by kernel_rfl) ?_
 clear hs; intro a hs
 obtain ⟨wd13, hx14, hw⟩ := x_put (P := Try.prog) (ty := 0) (t := 22) (x := (Operand.tmp 21)) (y := (Operand.tmp 19)) (off := 0 + 1 * 1) (p := ((ad2 : Addr).add 0 : Addr).add ((1 : Int).toNat * 1)) (v := .int .u32 a1) (vs := [.int .u32 a1]) (i := 0) (e' := (({ a0 with R := vset a0.R 1 a1 } : Sapi_Regs) : Sapi_Regs)) hs hw rfl (one_ok a0).1 (one_ok a0).2 (by kernel_rfl) (by simp only [add_add', Int.toNat_zero, Nat.zero_mul, Nat.zero_add, Nat.mul_one] <;> rfl) (by kernel_rfl) rfl (by kernel_rfl) (by have := (⟨by decide, by decide⟩ : (0 : Int) ≤ 1 ∧ (1 : Int) < ((16 : Nat) : Int)); show 0 + _ * 1 + 1 ≤ 21; omega) (by simp [Value.oneCell']) (vput (cs := eSapi_Regs.enc a0) (cs' := eSapi_Regs.enc ({ a0 with R := vset a0.R 1 a1 } : Sapi_Regs)) (pre := []) (post := [.int .u32 a0.H, .bool a0.N, .bool a0.Z, .bool a0.C, .bool a0.V]) (f := (fun j : Nat => .int .u32 (vx 0 a0.R j))) (f' := (fun j : Nat => .int .u32 (vx 0 (vset a0.R 1 a1) j))) (n := 16) (o := 0) (i := 1) (v := .int .u32 a1) (by kernel_rfl) (by kernel_rfl) rfl (by have := (⟨by decide, by decide⟩ : (0 : Int) ≤ 1 ∧ (1 : Int) < ((16 : Nat) : Int)); omega) (vx_put (by have := (⟨by decide, by decide⟩ : (0 : Int) ≤ 1 ∧ (1 : Int) < ((16 : Nat) : Int)); omega)))
 refine go_unit hs (op := (Op.store 22 (Operand.tmp 21) (Operand.tmp 19))) (ty := 0) (dst := none) (g := none) (by kernel_rfl) (by kernel_rfl) (by kernel_rfl) hx14 [1, 2, 3, 7] (L' := [(1, .int .u32 a1), (2, .int .u32 a2), (3, .pointer (some ad2)), (7, .bool t8)]) (by kernel_rfl) ?_
 clear hs; intro a hs
 replace hw : St [] w0 wd13 [own 25 eSapi_Regs (some ad2) 1 [({ a0 with R := vset a0.R 1 a1 } : Sapi_Regs)]] := hw
 refine go_end (by kernel_rfl) ?_
 refine hK12 _ _ ?_
 refine go_seq_k fun K15 hK15 => ?_
 refine go_region ?_
 refine go_pvs 0 2 [1, 2, 3, 7, 22, 23] hs (L' := [(1, .int .u32 a1), (2, .int .u32 a2), (3, .pointer (some ad2)), (7, .bool t8), (22, .int .u32 a2), (23, .pointer (some ((ad2 : Addr).add 0)))]) (by kernel_rfl) ?_ rfl
 clear hs; intro a hs
 refine go_run hs (op := (Op.indexAddr 23 (Operand.tmp 23) (Operand.const (Value.int IntKind.i64 2)))) (ty := 0) (dst := some 24) (g := none) (by kernel_rfl) (by kernel_rfl) (by kernel_rfl) (x_vidx (e := 22) (p := (ad2 : Addr).add 0) (n := 16) (k := .i64) (i := 2) (sz := 1) (by kernel_rfl) (by kernel_rfl) (by kernel_rfl) (by kernel_rfl) (⟨by decide, by decide⟩ : (0 : Int) ≤ 2 ∧ (2 : Int) < ((16 : Nat) : Int)).1 (⟨by decide, by decide⟩ : (0 : Int) ≤ 2 ∧ (2 : Int) < ((16 : Nat) : Int)).2) [1, 2, 3, 7, 22, 24] (L' := [(1, .int .u32 a1), (2, .int .u32 a2), (3, .pointer (some ad2)), (7, .bool t8), (22, .int .u32 a2), (24, .pointer (some (((ad2 : Addr).add 0 : Addr).add ((2 : Int).toNat * 1))))]) (by kernel_rfl) ?_
 clear hs; intro a hs
 obtain ⟨wd16, hx17, hw⟩ := x_put (P := Try.prog) (ty := 0) (t := 22) (x := (Operand.tmp 24)) (y := (Operand.tmp 22)) (off := 0 + 2 * 1) (p := ((ad2 : Addr).add 0 : Addr).add ((2 : Int).toNat * 1)) (v := .int .u32 a2) (vs := [.int .u32 a2]) (i := 0) (e' := (({ ({ a0 with R := vset a0.R 1 a1 } : Sapi_Regs) with R := vset (vset a0.R 1 a1) 2 a2 } : Sapi_Regs) : Sapi_Regs)) hs hw rfl (one_ok ({ a0 with R := vset a0.R 1 a1 } : Sapi_Regs)).1 (one_ok ({ a0 with R := vset a0.R 1 a1 } : Sapi_Regs)).2 (by kernel_rfl) (by simp only [add_add', Int.toNat_zero, Nat.zero_mul, Nat.zero_add, Nat.mul_one] <;> rfl) (by kernel_rfl) rfl (by kernel_rfl) (by have := (⟨by decide, by decide⟩ : (0 : Int) ≤ 2 ∧ (2 : Int) < ((16 : Nat) : Int)); show 0 + _ * 1 + 1 ≤ 21; omega) (by simp [Value.oneCell']) (vput (cs := eSapi_Regs.enc ({ a0 with R := vset a0.R 1 a1 } : Sapi_Regs)) (cs' := eSapi_Regs.enc ({ ({ a0 with R := vset a0.R 1 a1 } : Sapi_Regs) with R := vset (vset a0.R 1 a1) 2 a2 } : Sapi_Regs)) (pre := []) (post := [.int .u32 a0.H, .bool a0.N, .bool a0.Z, .bool a0.C, .bool a0.V]) (f := (fun j : Nat => .int .u32 (vx 0 (vset a0.R 1 a1) j))) (f' := (fun j : Nat => .int .u32 (vx 0 (vset (vset a0.R 1 a1) 2 a2) j))) (n := 16) (o := 0) (i := 2) (v := .int .u32 a2) (by kernel_rfl) (by kernel_rfl) rfl (by have := (⟨by decide, by decide⟩ : (0 : Int) ≤ 2 ∧ (2 : Int) < ((16 : Nat) : Int)); omega) (vx_put (by have := (⟨by decide, by decide⟩ : (0 : Int) ≤ 2 ∧ (2 : Int) < ((16 : Nat) : Int)); omega)))
 refine go_unit hs (op := (Op.store 22 (Operand.tmp 24) (Operand.tmp 22))) (ty := 0) (dst := none) (g := none) (by kernel_rfl) (by kernel_rfl) (by kernel_rfl) hx17 [1, 2, 3, 7] (L' := [(1, .int .u32 a1), (2, .int .u32 a2), (3, .pointer (some ad2)), (7, .bool t8)]) (by kernel_rfl) ?_
 clear hs; intro a hs
 replace hw : St [] w0 wd16 [own 25 eSapi_Regs (some ad2) 1 [({ ({ a0 with R := vset a0.R 1 a1 } : Sapi_Regs) with R := vset (vset a0.R 1 a1) 2 a2 } : Sapi_Regs)]] := hw
 refine go_end (by kernel_rfl) ?_
 refine hK15 _ _ ?_
 refine go_seq_k fun K18 hK18 => ?_
 refine go_region ?_
 refine go_pvs 0 1 [1, 2, 3, 7, 25] hs (L' := [(1, .int .u32 a1), (2, .int .u32 a2), (3, .pointer (some ad2)), (7, .bool t8), (25, .agg (eA36.enc (#v[0, 0, 0, 0] : Vector Int 4)).toArray)]) (by kernel_rfl) ?_ rfl
 clear hs; intro a hs
 obtain ⟨ad19, wd20, hx21, hw⟩ := x_alloc1 (P := Try.prog) (elem := 36) (ty := 0) (z := .agg (eA36.enc (Vector.replicate 4 0)).toArray) hs hw eA36 (Vector.replicate 4 0) (by kernel_rfl) (by kernel_rfl)
 refine go_run hs (op := (Op.alloc 36)) (ty := 0) (dst := some 8) (g := none) (by kernel_rfl) (by kernel_rfl) (by kernel_rfl) hx21 [1, 2, 3, 7, 8, 25] (L' := [(1, .int .u32 a1), (2, .int .u32 a2), (3, .pointer (some ad2)), (7, .bool t8), (8, .pointer (some ad19)), (25, .agg (eA36.enc (#v[0, 0, 0, 0] : Vector Int 4)).toArray)]) (by kernel_rfl) ?_
 clear hs; intro a hs
 obtain ⟨wd23, hx24, hw⟩ := x_put (P := Try.prog) (ty := 0) (t := 36) (x := (Operand.tmp 8)) (y := (Operand.tmp 25)) (off := 0) (p := ad19) (v := .agg (eA36.enc (#v[0, 0, 0, 0] : Vector Int 4)).toArray) (vs := (eA36.enc (#v[0, 0, 0, 0] : Vector Int 4))) (i := 0) (e' := ((#v[0, 0, 0, 0] : Vector Int 4) : Vector Int 4)) hs hw rfl (one_ok (Vector.replicate 4 0)).1 (one_ok (Vector.replicate 4 0)).2 (by kernel_rfl) (one_at _ _) (by kernel_rfl) rfl (by kernel_rfl) (Nat.le_of_ble_eq_true rfl) (eA36.one _) (by kernel_rfl)
 refine go_unit hs (op := (Op.store 36 (Operand.tmp 8) (Operand.tmp 25))) (ty := 0) (dst := none) (g := none) (by kernel_rfl) (by kernel_rfl) (by kernel_rfl) hx24 [1, 2, 3, 7, 8] (L' := [(1, .int .u32 a1), (2, .int .u32 a2), (3, .pointer (some ad2)), (7, .bool t8), (8, .pointer (some ad19))]) (by kernel_rfl) ?_
 clear hs; intro a hs
 replace hw : St [] w0 wd23 [own 36 eA36 (some ad19) 1 [(#v[0, 0, 0, 0] : Vector Int 4)], own 25 eSapi_Regs (some ad2) 1 [({ ({ a0 with R := vset a0.R 1 a1 } : Sapi_Regs) with R := vset (vset a0.R 1 a1) 2 a2 } : Sapi_Regs)]] := hw
 refine go_end (by kernel_rfl) ?_
 refine hK18 _ _ ?_
 refine go_seq_k fun K25 hK25 => ?_
 refine go_seq_k fun K26 hK26 => ?_
 refine go_region ?_
 refine go_pvs 0 1 [1, 2, 3, 7, 8, 9] hs (L' := [(1, .int .u32 a1), (2, .int .u32 a2), (3, .pointer (some ad2)), (7, .bool t8), (8, .pointer (some ad19)), (9, .int .i64 0)]) (by kernel_rfl) ?_ rfl
 clear hs; intro a hs
 refine go_end (by kernel_rfl) ?_
 refine hK26 _ _ ?_
 refine wp_block ?_
 obtain ⟨e27, hl27, HX27⟩ := bind_some H
 have hJ1 : ∀ (v56 : Vector Int 4) (a : Act) (w : World), Slots a 153 [(1, .int .u32 a1), (2, .int .u32 a2), (3, .pointer (some ad2)), (7, .bool t8), (8, .pointer (some ad19))] → St [] w0 w [own 36 eA36 (some ad19) 1 [v56], own 25 eSapi_Regs (some ad2) 1 [({ ({ a0 with R := vset a0.R 1 a1 } : Sapi_Regs) with R := vset (vset a0.R 1 a1) 2 a2 } : Sapi_Regs)]] → rivetlaw04_AluBits.j1 a0 a1 a2 t8 v56 = some r → K25 a w := by
  intro v56 a w hs hw H
  unfold rivetlaw04_AluBits.j1 at H
  refine hK25 _ _ ?_
  refine go_seq_k fun K57 hK57 => ?_
  refine go_region ?_
  refine go_run hs (op := (Op.load 25 (Operand.tmp 3))) (ty := 25) (dst := some 46) (g := none) (by kernel_rfl) (by kernel_rfl) (by kernel_rfl) (x_lds (E := eSapi_Regs) (off := 0) (p := ad2) (cs := (eSapi_Regs.enc ({ ({ a0 with R := vset a0.R 1 a1 } : Sapi_Regs) with R := vset (vset a0.R 1 a1) 2 a2 } : Sapi_Regs))) (Rd.of_own (hw.up 1)) (one_ok ({ ({ a0 with R := vset a0.R 1 a1 } : Sapi_Regs) with R := vset (vset a0.R 1 a1) 2 a2 } : Sapi_Regs)).1 (one_ok ({ ({ a0 with R := vset a0.R 1 a1 } : Sapi_Regs) with R := vset (vset a0.R 1 a1) 2 a2 } : Sapi_Regs)).2 (by kernel_rfl) (one_at _ _) (by kernel_rfl) (by kernel_rfl) (by kernel_rfl)) [1, 2, 3, 7, 8, 46] (L' := [(1, .int .u32 a1), (2, .int .u32 a2), (3, .pointer (some ad2)), (7, .bool t8), (8, .pointer (some ad19)), (46, .agg (eSapi_Regs.enc ({ ({ a0 with R := vset a0.R 1 a1 } : Sapi_Regs) with R := vset (vset a0.R 1 a1) 2 a2 } : Sapi_Regs)).toArray)]) (by kernel_rfl) ?_
  clear hs; intro a hs
  refine go_pvs 1 2 [1, 2, 3, 7, 8, 46, 47] hs (L' := [(1, .int .u32 a1), (2, .int .u32 a2), (3, .pointer (some ad2)), (7, .bool t8), (8, .pointer (some ad19)), (46, .agg (eSapi_Regs.enc ({ ({ a0 with R := vset a0.R 1 a1 } : Sapi_Regs) with R := vset (vset a0.R 1 a1) 2 a2 } : Sapi_Regs)).toArray), (47, .agg (eSapi_Instr.enc (⟨3, 0, 4, 0, 0, 0, false⟩ : Sapi_Instr)).toArray)]) (by kernel_rfl) ?_ rfl
  clear hs; intro a hs
  obtain ⟨⟨t59, t60⟩, hx61, H⟩ := bind_some H
  refine go_call hs (op := (Op.call { callee := (Callee.value (Operand.func 12)), args := #[(Operand.tmp 46), (Operand.tmp 47)], argTypes := #[25, 27] })) (ty := 30) (dst := some 48) (g := none) (by kernel_rfl) (by kernel_rfl) (by kernel_rfl) (f := 12) (args := #[.agg (eSapi_Regs.enc ({ ({ a0 with R := vset a0.R 1 a1 } : Sapi_Regs) with R := vset (vset a0.R 1 a1) 2 a2 } : Sapi_Regs)).toArray, .agg (eSapi_Instr.enc (⟨3, 0, 4, 0, 0, 0, false⟩ : Sapi_Instr)).toArray]) (by kernel_rfl) (alu_Do.calls ({ ({ a0 with R := vset a0.R 1 a1 } : Sapi_Regs) with R := vset (vset a0.R 1 a1) 2 a2 } : Sapi_Regs) (⟨3, 0, 4, 0, 0, 0, false⟩ : Sapi_Instr) (t59, t60) _ hx61) ?_
  rintro e wd62 ⟨rfl, hw63⟩
  refine ⟨_, rfl, ?_⟩
  replace hw := hw.call hw63
  intro a hs1
  replace hs : Slots a 153 [(1, .int .u32 a1), (2, .int .u32 a2), (3, .pointer (some ad2)), (7, .bool t8), (8, .pointer (some ad19)), (48, .tuple #[.agg (eSapi_Regs.enc t59).toArray, .int .i64 t60])] := hs1.keep [1, 2, 3, 7, 8, 48] (by kernel_rfl)
  clear hs1
  refine go_pvs 3 6 [1, 2, 3, 7, 8, 49, 50] hs (L' := [(1, .int .u32 a1), (2, .int .u32 a2), (3, .pointer (some ad2)), (7, .bool t8), (8, .pointer (some ad19)), (49, .agg (eSapi_Regs.enc t59).toArray), (50, .int .i64 t60)]) (by kernel_rfl) ?_ rfl
  clear hs; intro a hs
  obtain ⟨ad64, wd65, hx66, hw⟩ := x_alloc1 (P := Try.prog) (elem := 25) (ty := 0) (z := .agg (eSapi_Regs.enc (⟨(Vector.replicate 16 0), 0, false, false, false, false⟩ : Sapi_Regs)).toArray) hs hw eSapi_Regs (⟨(Vector.replicate 16 0), 0, false, false, false, false⟩ : Sapi_Regs) (by kernel_rfl) (by kernel_rfl)
  refine go_run hs (op := (Op.alloc 25)) (ty := 0) (dst := some 12) (g := none) (by kernel_rfl) (by kernel_rfl) (by kernel_rfl) hx66 [1, 2, 3, 7, 8, 12, 49, 50] (L' := [(1, .int .u32 a1), (2, .int .u32 a2), (3, .pointer (some ad2)), (7, .bool t8), (8, .pointer (some ad19)), (12, .pointer (some ad64)), (49, .agg (eSapi_Regs.enc t59).toArray), (50, .int .i64 t60)]) (by kernel_rfl) ?_
  clear hs; intro a hs
  obtain ⟨wd68, hx69, hw⟩ := x_put (P := Try.prog) (ty := 0) (t := 25) (x := (Operand.tmp 12)) (y := (Operand.tmp 49)) (off := 0) (p := ad64) (v := .agg (eSapi_Regs.enc t59).toArray) (vs := (eSapi_Regs.enc t59)) (i := 0) (e' := ((t59 : Sapi_Regs) : Sapi_Regs)) hs hw rfl (one_ok (⟨(Vector.replicate 16 0), 0, false, false, false, false⟩ : Sapi_Regs)).1 (one_ok (⟨(Vector.replicate 16 0), 0, false, false, false, false⟩ : Sapi_Regs)).2 (by kernel_rfl) (one_at _ _) (by kernel_rfl) rfl (by kernel_rfl) (Nat.le_of_ble_eq_true rfl) (eSapi_Regs.one _) (by kernel_rfl)
  refine go_unit hs (op := (Op.store 25 (Operand.tmp 12) (Operand.tmp 49))) (ty := 0) (dst := none) (g := none) (by kernel_rfl) (by kernel_rfl) (by kernel_rfl) hx69 [1, 2, 3, 7, 8, 12, 50] (L' := [(1, .int .u32 a1), (2, .int .u32 a2), (3, .pointer (some ad2)), (7, .bool t8), (8, .pointer (some ad19)), (12, .pointer (some ad64)), (50, .int .i64 t60)]) (by kernel_rfl) ?_
  clear hs; intro a hs
  replace hw : St [] w0 wd68 [own 25 eSapi_Regs (some ad64) 1 [(t59 : Sapi_Regs)], own 36 eA36 (some ad19) 1 [v56], own 25 eSapi_Regs (some ad2) 1 [({ ({ a0 with R := vset a0.R 1 a1 } : Sapi_Regs) with R := vset (vset a0.R 1 a1) 2 a2 } : Sapi_Regs)]] := hw
  refine go_pvs 8 9 [1, 2, 3, 7, 8, 12] hs (L' := [(1, .int .u32 a1), (2, .int .u32 a2), (3, .pointer (some ad2)), (7, .bool t8), (8, .pointer (some ad19)), (12, .pointer (some ad64))]) (by kernel_rfl) ?_ rfl
  clear hs; intro a hs
  refine go_end (by kernel_rfl) ?_
  refine hK57 _ _ ?_
  refine go_seq_k fun K70 hK70 => ?_
  refine go_region ?_
  refine go_run hs (op := (Op.load 25 (Operand.tmp 3))) (ty := 25) (dst := some 52) (g := none) (by kernel_rfl) (by kernel_rfl) (by kernel_rfl) (x_lds (E := eSapi_Regs) (off := 0) (p := ad2) (cs := (eSapi_Regs.enc ({ ({ a0 with R := vset a0.R 1 a1 } : Sapi_Regs) with R := vset (vset a0.R 1 a1) 2 a2 } : Sapi_Regs))) (Rd.of_own (hw.up 2)) (one_ok ({ ({ a0 with R := vset a0.R 1 a1 } : Sapi_Regs) with R := vset (vset a0.R 1 a1) 2 a2 } : Sapi_Regs)).1 (one_ok ({ ({ a0 with R := vset a0.R 1 a1 } : Sapi_Regs) with R := vset (vset a0.R 1 a1) 2 a2 } : Sapi_Regs)).2 (by kernel_rfl) (one_at _ _) (by kernel_rfl) (by kernel_rfl) (by kernel_rfl)) [1, 2, 3, 7, 8, 12, 52] (L' := [(1, .int .u32 a1), (2, .int .u32 a2), (3, .pointer (some ad2)), (7, .bool t8), (8, .pointer (some ad19)), (12, .pointer (some ad64)), (52, .agg (eSapi_Regs.enc ({ ({ a0 with R := vset a0.R 1 a1 } : Sapi_Regs) with R := vset (vset a0.R 1 a1) 2 a2 } : Sapi_Regs)).toArray)]) (by kernel_rfl) ?_
  clear hs; intro a hs
  refine go_pvs 1 2 [1, 2, 3, 7, 8, 12, 52, 53] hs (L' := [(1, .int .u32 a1), (2, .int .u32 a2), (3, .pointer (some ad2)), (7, .bool t8), (8, .pointer (some ad19)), (12, .pointer (some ad64)), (52, .agg (eSapi_Regs.enc ({ ({ a0 with R := vset a0.R 1 a1 } : Sapi_Regs) with R := vset (vset a0.R 1 a1) 2 a2 } : Sapi_Regs)).toArray), (53, .agg (eSapi_Instr.enc (⟨4, 0, 5, 0, 0, 0, false⟩ : Sapi_Instr)).toArray)]) (by kernel_rfl) ?_ rfl
  clear hs; intro a hs
  obtain ⟨⟨t72, t73⟩, hx74, H⟩ := bind_some H
  refine go_call hs (op := (Op.call { callee := (Callee.value (Operand.func 12)), args := #[(Operand.tmp 52), (Operand.tmp 53)], argTypes := #[25, 27] })) (ty := 30) (dst := some 54) (g := none) (by kernel_rfl) (by kernel_rfl) (by kernel_rfl) (f := 12) (args := #[.agg (eSapi_Regs.enc ({ ({ a0 with R := vset a0.R 1 a1 } : Sapi_Regs) with R := vset (vset a0.R 1 a1) 2 a2 } : Sapi_Regs)).toArray, .agg (eSapi_Instr.enc (⟨4, 0, 5, 0, 0, 0, false⟩ : Sapi_Instr)).toArray]) (by kernel_rfl) (alu_Do.calls ({ ({ a0 with R := vset a0.R 1 a1 } : Sapi_Regs) with R := vset (vset a0.R 1 a1) 2 a2 } : Sapi_Regs) (⟨4, 0, 5, 0, 0, 0, false⟩ : Sapi_Instr) (t72, t73) _ hx74) ?_
  rintro e wd75 ⟨rfl, hw76⟩
  refine ⟨_, rfl, ?_⟩
  replace hw := hw.call hw76
  intro a hs1
  replace hs : Slots a 153 [(1, .int .u32 a1), (2, .int .u32 a2), (3, .pointer (some ad2)), (7, .bool t8), (8, .pointer (some ad19)), (12, .pointer (some ad64)), (54, .tuple #[.agg (eSapi_Regs.enc t72).toArray, .int .i64 t73])] := hs1.keep [1, 2, 3, 7, 8, 12, 54] (by kernel_rfl)
  clear hs1
  refine go_pvs 3 6 [1, 2, 3, 7, 8, 12, 55, 56] hs (L' := [(1, .int .u32 a1), (2, .int .u32 a2), (3, .pointer (some ad2)), (7, .bool t8), (8, .pointer (some ad19)), (12, .pointer (some ad64)), (55, .agg (eSapi_Regs.enc t72).toArray), (56, .int .i64 t73)]) (by kernel_rfl) ?_ rfl
  clear hs; intro a hs
  obtain ⟨ad77, wd78, hx79, hw⟩ := x_alloc1 (P := Try.prog) (elem := 25) (ty := 0) (z := .agg (eSapi_Regs.enc (⟨(Vector.replicate 16 0), 0, false, false, false, false⟩ : Sapi_Regs)).toArray) hs hw eSapi_Regs (⟨(Vector.replicate 16 0), 0, false, false, false, false⟩ : Sapi_Regs) (by kernel_rfl) (by kernel_rfl)
  refine go_run hs (op := (Op.alloc 25)) (ty := 0) (dst := some 14) (g := none) (by kernel_rfl) (by kernel_rfl) (by kernel_rfl) hx79 [1, 2, 3, 7, 8, 12, 14, 55, 56] (L' := [(1, .int .u32 a1), (2, .int .u32 a2), (3, .pointer (some ad2)), (7, .bool t8), (8, .pointer (some ad19)), (12, .pointer (some ad64)), (14, .pointer (some ad77)), (55, .agg (eSapi_Regs.enc t72).toArray), (56, .int .i64 t73)]) (by kernel_rfl) ?_
  clear hs; intro a hs
  obtain ⟨wd81, hx82, hw⟩ := x_put (P := Try.prog) (ty := 0) (t := 25) (x := (Operand.tmp 14)) (y := (Operand.tmp 55)) (off := 0) (p := ad77) (v := .agg (eSapi_Regs.enc t72).toArray) (vs := (eSapi_Regs.enc t72)) (i := 0) (e' := ((t72 : Sapi_Regs) : Sapi_Regs)) hs hw rfl (one_ok (⟨(Vector.replicate 16 0), 0, false, false, false, false⟩ : Sapi_Regs)).1 (one_ok (⟨(Vector.replicate 16 0), 0, false, false, false, false⟩ : Sapi_Regs)).2 (by kernel_rfl) (one_at _ _) (by kernel_rfl) rfl (by kernel_rfl) (Nat.le_of_ble_eq_true rfl) (eSapi_Regs.one _) (by kernel_rfl)
  refine go_unit hs (op := (Op.store 25 (Operand.tmp 14) (Operand.tmp 55))) (ty := 0) (dst := none) (g := none) (by kernel_rfl) (by kernel_rfl) (by kernel_rfl) hx82 [1, 2, 3, 7, 8, 12, 14, 56] (L' := [(1, .int .u32 a1), (2, .int .u32 a2), (3, .pointer (some ad2)), (7, .bool t8), (8, .pointer (some ad19)), (12, .pointer (some ad64)), (14, .pointer (some ad77)), (56, .int .i64 t73)]) (by kernel_rfl) ?_
  clear hs; intro a hs
  replace hw : St [] w0 wd81 [own 25 eSapi_Regs (some ad77) 1 [(t72 : Sapi_Regs)], own 25 eSapi_Regs (some ad64) 1 [(t59 : Sapi_Regs)], own 36 eA36 (some ad19) 1 [v56], own 25 eSapi_Regs (some ad2) 1 [({ ({ a0 with R := vset a0.R 1 a1 } : Sapi_Regs) with R := vset (vset a0.R 1 a1) 2 a2 } : Sapi_Regs)]] := hw
  refine go_pvs 8 9 [1, 2, 3, 7, 8, 12, 14] hs (L' := [(1, .int .u32 a1), (2, .int .u32 a2), (3, .pointer (some ad2)), (7, .bool t8), (8, .pointer (some ad19)), (12, .pointer (some ad64)), (14, .pointer (some ad77))]) (by kernel_rfl) ?_ rfl
  clear hs; intro a hs
  refine go_end (by kernel_rfl) ?_
  refine hK70 _ _ ?_
  refine go_seq_k fun K83 hK83 => ?_
  refine go_region ?_
  refine go_pvs 0 1 [1, 2, 3, 7, 8, 12, 57] hs (L' := [(1, .int .u32 a1), (2, .int .u32 a2), (3, .pointer (some ad2)), (7, .bool t8), (8, .pointer (some ad19)), (12, .pointer (some ad64)), (57, .pointer (some ((ad77 : Addr).add 0)))]) (by kernel_rfl) ?_ rfl
  clear hs; intro a hs
  refine go_run hs (op := (Op.indexAddr 23 (Operand.tmp 57) (Operand.const (Value.int IntKind.i64 5)))) (ty := 0) (dst := some 58) (g := none) (by kernel_rfl) (by kernel_rfl) (by kernel_rfl) (x_vidx (e := 22) (p := (ad77 : Addr).add 0) (n := 16) (k := .i64) (i := 5) (sz := 1) (by kernel_rfl) (by kernel_rfl) (by kernel_rfl) (by kernel_rfl) (⟨by decide, by decide⟩ : (0 : Int) ≤ 5 ∧ (5 : Int) < ((16 : Nat) : Int)).1 (⟨by decide, by decide⟩ : (0 : Int) ≤ 5 ∧ (5 : Int) < ((16 : Nat) : Int)).2) [1, 2, 3, 7, 8, 12, 58] (L' := [(1, .int .u32 a1), (2, .int .u32 a2), (3, .pointer (some ad2)), (7, .bool t8), (8, .pointer (some ad19)), (12, .pointer (some ad64)), (58, .pointer (some (((ad77 : Addr).add 0 : Addr).add ((5 : Int).toNat * 1))))]) (by kernel_rfl) ?_
  clear hs; intro a hs
  refine go_run hs (op := (Op.load 22 (Operand.tmp 58))) (ty := 22) (dst := some 59) (g := none) (by kernel_rfl) (by kernel_rfl) (by kernel_rfl) (x_ld (E := eSapi_Regs) (off := 5) (p := ((ad77 : Addr).add 0 : Addr).add ((5 : Int).toNat * 1)) (v := .int .u32 (vx 0 ((t72 : Sapi_Regs).R) 5)) (Rd.of_own (hw.up 0)) (one_ok (t72 : Sapi_Regs)).1 (one_ok (t72 : Sapi_Regs)).2 (by kernel_rfl) (by simp only [add_add', Int.toNat_zero, Nat.zero_mul, Nat.zero_add, Nat.mul_one] <;> rfl) (by kernel_rfl) (by kernel_rfl)) [1, 2, 3, 7, 8, 12, 59] (L' := [(1, .int .u32 a1), (2, .int .u32 a2), (3, .pointer (some ad2)), (7, .bool t8), (8, .pointer (some ad19)), (12, .pointer (some ad64)), (59, .int .u32 (vx 0 ((t72 : Sapi_Regs).R) 5))]) (by kernel_rfl) ?_
  clear hs; intro a hs
  refine go_pvs 3 4 [1, 2, 3, 7, 8, 12, 16] hs (L' := [(1, .int .u32 a1), (2, .int .u32 a2), (3, .pointer (some ad2)), (7, .bool t8), (8, .pointer (some ad19)), (12, .pointer (some ad64)), (16, .int .u32 (vx 0 ((t72 : Sapi_Regs).R) 5))]) (by kernel_rfl) ?_ rfl
  clear hs; intro a hs
  obtain ⟨y84, hy84, H⟩ := nm_some H
  replace hs : Slots a 153 [(1, .int .u32 a1), (2, .int .u32 a2), (3, .pointer (some ad2)), (7, .bool t8), (8, .pointer (some ad19)), (12, .pointer (some ad64)), (16, .int .u32 y84)] := by rw [hy84]; exact hs
  refine go_end (by kernel_rfl) ?_
  refine hK83 _ _ ?_
  refine go_seq_k fun K85 hK85 => ?_
  have hJ2 : ∀ (v90 : Bool) (a : Act) (w : World), Slots a 153 [(1, .int .u32 a1), (2, .int .u32 a2), (3, .pointer (some ad2)), (7, .bool t8), (8, .pointer (some ad19)), (12, .pointer (some ad64)), (17, .bool v90)] → St [] w0 w [own 25 eSapi_Regs (some ad77) 1 [(t72 : Sapi_Regs)], own 25 eSapi_Regs (some ad64) 1 [(t59 : Sapi_Regs)], own 36 eA36 (some ad19) 1 [v56], own 25 eSapi_Regs (some ad2) 1 [({ ({ a0 with R := vset a0.R 1 a1 } : Sapi_Regs) with R := vset (vset a0.R 1 a1) 2 a2 } : Sapi_Regs)]] → rivetlaw04_AluBits.j2 t8 v56 a1 a2 t59 a0 v90 = some r → K85 a w := by
   intro v90 a w hs hw H
   unfold rivetlaw04_AluBits.j2 at H
   refine hK85 _ _ ?_
   refine go_seq_k fun K91 hK91 => ?_
   have hJ3 : ∀ (v99 : Bool) (a : Act) (w : World), Slots a 153 [(6, .bool v99)] → St [] w0 w [own 25 eSapi_Regs (some ad77) 1 [(t72 : Sapi_Regs)], own 25 eSapi_Regs (some ad64) 1 [(t59 : Sapi_Regs)], own 36 eA36 (some ad19) 1 [v56], own 25 eSapi_Regs (some ad2) 1 [({ ({ a0 with R := vset a0.R 1 a1 } : Sapi_Regs) with R := vset (vset a0.R 1 a1) 2 a2 } : Sapi_Regs)]] → rivetlaw04_AluBits.j3 v99 = some r → K91 a w := by
    intro v99 a w hs hw H
    unfold rivetlaw04_AluBits.j3 at H
    refine hK91 _ _ ?_
    refine wp_ret ?_
    obtain rfl := Option.some.inj H
    refine ret1 (t := 6) (v := .bool v99) hs (by kernel_rfl) (by kernel_rfl) ?_
    exact ⟨rfl, hw.only 0⟩
   refine go_region ?_
   refine go_pvs 0 2 [1, 2, 3, 8, 12, 17, 99] hs (L' := [(1, .int .u32 a1), (2, .int .u32 a2), (3, .pointer (some ad2)), (8, .pointer (some ad19)), (12, .pointer (some ad64)), (17, .bool v90), (99, .bool t8)]) (by kernel_rfl) ?_ rfl
   clear hs; intro a hs
   cases hb92 : t8
   ·replace H := ite_f H (ff hb92)
    rw [hb92] at hs
    refine go_pvs 2 56 [6] hs (L' := [(6, .bool false)]) (by kernel_rfl) ?_ rfl
    clear hs; intro a hs
    refine go_end (by kernel_rfl) ?_
    replace hw := hw.up 3
    replace hw := hw.up 3
    replace hw := hw.up 3
    replace hw := hw.up 3
    replace hw := hw.only 4
    exact hJ3 false _ _ (hs.keep [6] (by kernel_rfl)) hw H
   ·replace H := ite_t H hb92
    rw [hb92] at hs
    refine go_run hs (op := (Op.indexAddr 36 (Operand.tmp 8) (Operand.const (Value.int IntKind.i64 0)))) (ty := 0) (dst := some 100) (g := some (1, true)) (by kernel_rfl) (by kernel_rfl) (by kernel_rfl) (x_vidx (e := 22) (p := ad19) (n := 4) (k := .i64) (i := 0) (sz := 1) (by kernel_rfl) (by kernel_rfl) (by kernel_rfl) (by kernel_rfl) (⟨by decide, by decide⟩ : (0 : Int) ≤ 0 ∧ (0 : Int) < ((4 : Nat) : Int)).1 (⟨by decide, by decide⟩ : (0 : Int) ≤ 0 ∧ (0 : Int) < ((4 : Nat) : Int)).2) [1, 2, 3, 8, 12, 17, 99, 100] (L' := [(1, .int .u32 a1), (2, .int .u32 a2), (3, .pointer (some ad2)), (8, .pointer (some ad19)), (12, .pointer (some ad64)), (17, .bool v90), (99, .bool true), (100, .pointer (some ((ad19 : Addr).add ((0 : Int).toNat * 1))))]) (by kernel_rfl) ?_
    clear hs; intro a hs
    refine go_run hs (op := (Op.load 22 (Operand.tmp 100))) (ty := 22) (dst := some 101) (g := some (1, true)) (by kernel_rfl) (by kernel_rfl) (by kernel_rfl) (x_ld (E := eA36) (off := 0) (p := (ad19 : Addr).add ((0 : Int).toNat * 1)) (v := .int .u32 (vx 0 v56 0)) (Rd.of_own (hw.up 2)) (one_ok (#v[0, 0, 0, 0] : Vector Int 4)).1 (one_ok (#v[0, 0, 0, 0] : Vector Int 4)).2 (by kernel_rfl) (by simp only [add_add', Int.toNat_zero, Nat.zero_mul, Nat.zero_add, Nat.mul_one] <;> rfl) (by kernel_rfl) (by kernel_rfl)) [1, 2, 3, 8, 12, 17, 99, 101] (L' := [(1, .int .u32 a1), (2, .int .u32 a2), (3, .pointer (some ad2)), (8, .pointer (some ad19)), (12, .pointer (some ad64)), (17, .bool v90), (99, .bool true), (101, .int .u32 (vx 0 v56 0))]) (by kernel_rfl) ?_
    clear hs; intro a hs
    refine go_run hs (op := (Op.indexAddr 36 (Operand.tmp 8) (Operand.const (Value.int IntKind.i64 1)))) (ty := 0) (dst := some 102) (g := some (1, true)) (by kernel_rfl) (by kernel_rfl) (by kernel_rfl) (x_vidx (e := 22) (p := ad19) (n := 4) (k := .i64) (i := 1) (sz := 1) (by kernel_rfl) (by kernel_rfl) (by kernel_rfl) (by kernel_rfl) (⟨by decide, by decide⟩ : (0 : Int) ≤ 1 ∧ (1 : Int) < ((4 : Nat) : Int)).1 (⟨by decide, by decide⟩ : (0 : Int) ≤ 1 ∧ (1 : Int) < ((4 : Nat) : Int)).2) [1, 2, 3, 8, 12, 17, 99, 101, 102] (L' := [(1, .int .u32 a1), (2, .int .u32 a2), (3, .pointer (some ad2)), (8, .pointer (some ad19)), (12, .pointer (some ad64)), (17, .bool v90), (99, .bool true), (101, .int .u32 (vx 0 v56 0)), (102, .pointer (some ((ad19 : Addr).add ((1 : Int).toNat * 1))))]) (by kernel_rfl) ?_
    clear hs; intro a hs
    refine go_run hs (op := (Op.load 22 (Operand.tmp 102))) (ty := 22) (dst := some 103) (g := some (1, true)) (by kernel_rfl) (by kernel_rfl) (by kernel_rfl) (x_ld (E := eA36) (off := 1) (p := (ad19 : Addr).add ((1 : Int).toNat * 1)) (v := .int .u32 (vx 0 v56 1)) (Rd.of_own (hw.up 2)) (one_ok (#v[0, 0, 0, 0] : Vector Int 4)).1 (one_ok (#v[0, 0, 0, 0] : Vector Int 4)).2 (by kernel_rfl) (by simp only [add_add', Int.toNat_zero, Nat.zero_mul, Nat.zero_add, Nat.mul_one] <;> rfl) (by kernel_rfl) (by kernel_rfl)) [1, 2, 3, 8, 12, 17, 99, 101, 103] (L' := [(1, .int .u32 a1), (2, .int .u32 a2), (3, .pointer (some ad2)), (8, .pointer (some ad19)), (12, .pointer (some ad64)), (17, .bool v90), (99, .bool true), (101, .int .u32 (vx 0 v56 0)), (103, .int .u32 (vx 0 v56 1))]) (by kernel_rfl) ?_
    clear hs; intro a hs
    refine go_pvs 6 11 [1, 2, 3, 8, 12, 17, 108] hs (L' := [(1, .int .u32 a1), (2, .int .u32 a2), (3, .pointer (some ad2)), (8, .pointer (some ad19)), (12, .pointer (some ad64)), (17, .bool v90), (108, .bool ((bor .u32 (vx 0 v56 0) (vx 0 v56 1)) == a1))]) (by kernel_rfl) ?_ rfl
    clear hs; intro a hs
    cases hb93 : ((bor .u32 (vx 0 v56 0) (vx 0 v56 1)) == a1)
    ·replace H := ite_f H (beq_eq_false_iff_ne.1 hb93)
     rw [hb93] at hs
     refine go_pvs 11 56 [6] hs (L' := [(6, .bool false)]) (by kernel_rfl) ?_ rfl
     clear hs; intro a hs
     refine go_end (by kernel_rfl) ?_
     replace hw := hw.up 3
     replace hw := hw.up 3
     replace hw := hw.up 3
     replace hw := hw.up 3
     replace hw := hw.only 4
     exact hJ3 false _ _ (hs.keep [6] (by kernel_rfl)) hw H
    ·replace H := ite_t H (beq_iff_eq.1 hb93)
     rw [hb93] at hs
     refine go_run hs (op := (Op.indexAddr 36 (Operand.tmp 8) (Operand.const (Value.int IntKind.i64 0)))) (ty := 0) (dst := some 109) (g := some (10, true)) (by kernel_rfl) (by kernel_rfl) (by kernel_rfl) (x_vidx (e := 22) (p := ad19) (n := 4) (k := .i64) (i := 0) (sz := 1) (by kernel_rfl) (by kernel_rfl) (by kernel_rfl) (by kernel_rfl) (⟨by decide, by decide⟩ : (0 : Int) ≤ 0 ∧ (0 : Int) < ((4 : Nat) : Int)).1 (⟨by decide, by decide⟩ : (0 : Int) ≤ 0 ∧ (0 : Int) < ((4 : Nat) : Int)).2) [1, 2, 3, 8, 12, 17, 108, 109] (L' := [(1, .int .u32 a1), (2, .int .u32 a2), (3, .pointer (some ad2)), (8, .pointer (some ad19)), (12, .pointer (some ad64)), (17, .bool v90), (108, .bool true), (109, .pointer (some ((ad19 : Addr).add ((0 : Int).toNat * 1))))]) (by kernel_rfl) ?_
     clear hs; intro a hs
     refine go_run hs (op := (Op.load 22 (Operand.tmp 109))) (ty := 22) (dst := some 110) (g := some (10, true)) (by kernel_rfl) (by kernel_rfl) (by kernel_rfl) (x_ld (E := eA36) (off := 0) (p := (ad19 : Addr).add ((0 : Int).toNat * 1)) (v := .int .u32 (vx 0 v56 0)) (Rd.of_own (hw.up 2)) (one_ok (#v[0, 0, 0, 0] : Vector Int 4)).1 (one_ok (#v[0, 0, 0, 0] : Vector Int 4)).2 (by kernel_rfl) (by simp only [add_add', Int.toNat_zero, Nat.zero_mul, Nat.zero_add, Nat.mul_one] <;> rfl) (by kernel_rfl) (by kernel_rfl)) [1, 2, 3, 8, 12, 17, 108, 110] (L' := [(1, .int .u32 a1), (2, .int .u32 a2), (3, .pointer (some ad2)), (8, .pointer (some ad19)), (12, .pointer (some ad64)), (17, .bool v90), (108, .bool true), (110, .int .u32 (vx 0 v56 0))]) (by kernel_rfl) ?_
     clear hs; intro a hs
     refine go_run hs (op := (Op.indexAddr 36 (Operand.tmp 8) (Operand.const (Value.int IntKind.i64 1)))) (ty := 0) (dst := some 111) (g := some (10, true)) (by kernel_rfl) (by kernel_rfl) (by kernel_rfl) (x_vidx (e := 22) (p := ad19) (n := 4) (k := .i64) (i := 1) (sz := 1) (by kernel_rfl) (by kernel_rfl) (by kernel_rfl) (by kernel_rfl) (⟨by decide, by decide⟩ : (0 : Int) ≤ 1 ∧ (1 : Int) < ((4 : Nat) : Int)).1 (⟨by decide, by decide⟩ : (0 : Int) ≤ 1 ∧ (1 : Int) < ((4 : Nat) : Int)).2) [1, 2, 3, 8, 12, 17, 108, 110, 111] (L' := [(1, .int .u32 a1), (2, .int .u32 a2), (3, .pointer (some ad2)), (8, .pointer (some ad19)), (12, .pointer (some ad64)), (17, .bool v90), (108, .bool true), (110, .int .u32 (vx 0 v56 0)), (111, .pointer (some ((ad19 : Addr).add ((1 : Int).toNat * 1))))]) (by kernel_rfl) ?_
     clear hs; intro a hs
     refine go_run hs (op := (Op.load 22 (Operand.tmp 111))) (ty := 22) (dst := some 112) (g := some (10, true)) (by kernel_rfl) (by kernel_rfl) (by kernel_rfl) (x_ld (E := eA36) (off := 1) (p := (ad19 : Addr).add ((1 : Int).toNat * 1)) (v := .int .u32 (vx 0 v56 1)) (Rd.of_own (hw.up 2)) (one_ok (#v[0, 0, 0, 0] : Vector Int 4)).1 (one_ok (#v[0, 0, 0, 0] : Vector Int 4)).2 (by kernel_rfl) (by simp only [add_add', Int.toNat_zero, Nat.zero_mul, Nat.zero_add, Nat.mul_one] <;> rfl) (by kernel_rfl) (by kernel_rfl)) [1, 2, 3, 8, 12, 17, 108, 110, 112] (L' := [(1, .int .u32 a1), (2, .int .u32 a2), (3, .pointer (some ad2)), (8, .pointer (some ad19)), (12, .pointer (some ad64)), (17, .bool v90), (108, .bool true), (110, .int .u32 (vx 0 v56 0)), (112, .int .u32 (vx 0 v56 1))]) (by kernel_rfl) ?_
     clear hs; intro a hs
     refine go_pvs 15 19 [1, 2, 3, 8, 12, 17, 116] hs (L' := [(1, .int .u32 a1), (2, .int .u32 a2), (3, .pointer (some ad2)), (8, .pointer (some ad19)), (12, .pointer (some ad64)), (17, .bool v90), (116, .bool ((band .u32 (vx 0 v56 0) (vx 0 v56 1)) == 0))]) (by kernel_rfl) ?_ rfl
     clear hs; intro a hs
     cases hb94 : ((band .u32 (vx 0 v56 0) (vx 0 v56 1)) == 0)
     ·replace H := ite_f H (beq_eq_false_iff_ne.1 hb94)
      rw [hb94] at hs
      refine go_pvs 19 56 [6] hs (L' := [(6, .bool false)]) (by kernel_rfl) ?_ rfl
      clear hs; intro a hs
      refine go_end (by kernel_rfl) ?_
      replace hw := hw.up 3
      replace hw := hw.up 3
      replace hw := hw.up 3
      replace hw := hw.up 3
      replace hw := hw.only 4
      exact hJ3 false _ _ (hs.keep [6] (by kernel_rfl)) hw H
     ·replace H := ite_t H (beq_iff_eq.1 hb94)
      rw [hb94] at hs
      refine go_run hs (op := (Op.indexAddr 36 (Operand.tmp 8) (Operand.const (Value.int IntKind.i64 2)))) (ty := 0) (dst := some 117) (g := some (18, true)) (by kernel_rfl) (by kernel_rfl) (by kernel_rfl) (x_vidx (e := 22) (p := ad19) (n := 4) (k := .i64) (i := 2) (sz := 1) (by kernel_rfl) (by kernel_rfl) (by kernel_rfl) (by kernel_rfl) (⟨by decide, by decide⟩ : (0 : Int) ≤ 2 ∧ (2 : Int) < ((4 : Nat) : Int)).1 (⟨by decide, by decide⟩ : (0 : Int) ≤ 2 ∧ (2 : Int) < ((4 : Nat) : Int)).2) [1, 2, 3, 8, 12, 17, 116, 117] (L' := [(1, .int .u32 a1), (2, .int .u32 a2), (3, .pointer (some ad2)), (8, .pointer (some ad19)), (12, .pointer (some ad64)), (17, .bool v90), (116, .bool true), (117, .pointer (some ((ad19 : Addr).add ((2 : Int).toNat * 1))))]) (by kernel_rfl) ?_
      clear hs; intro a hs
      refine go_run hs (op := (Op.load 22 (Operand.tmp 117))) (ty := 22) (dst := some 118) (g := some (18, true)) (by kernel_rfl) (by kernel_rfl) (by kernel_rfl) (x_ld (E := eA36) (off := 2) (p := (ad19 : Addr).add ((2 : Int).toNat * 1)) (v := .int .u32 (vx 0 v56 2)) (Rd.of_own (hw.up 2)) (one_ok (#v[0, 0, 0, 0] : Vector Int 4)).1 (one_ok (#v[0, 0, 0, 0] : Vector Int 4)).2 (by kernel_rfl) (by simp only [add_add', Int.toNat_zero, Nat.zero_mul, Nat.zero_add, Nat.mul_one] <;> rfl) (by kernel_rfl) (by kernel_rfl)) [1, 2, 3, 8, 12, 17, 116, 118] (L' := [(1, .int .u32 a1), (2, .int .u32 a2), (3, .pointer (some ad2)), (8, .pointer (some ad19)), (12, .pointer (some ad64)), (17, .bool v90), (116, .bool true), (118, .int .u32 (vx 0 v56 2))]) (by kernel_rfl) ?_
      clear hs; intro a hs
      refine go_run hs (op := (Op.indexAddr 36 (Operand.tmp 8) (Operand.const (Value.int IntKind.i64 0)))) (ty := 0) (dst := some 119) (g := some (18, true)) (by kernel_rfl) (by kernel_rfl) (by kernel_rfl) (x_vidx (e := 22) (p := ad19) (n := 4) (k := .i64) (i := 0) (sz := 1) (by kernel_rfl) (by kernel_rfl) (by kernel_rfl) (by kernel_rfl) (⟨by decide, by decide⟩ : (0 : Int) ≤ 0 ∧ (0 : Int) < ((4 : Nat) : Int)).1 (⟨by decide, by decide⟩ : (0 : Int) ≤ 0 ∧ (0 : Int) < ((4 : Nat) : Int)).2) [1, 2, 3, 8, 12, 17, 116, 118, 119] (L' := [(1, .int .u32 a1), (2, .int .u32 a2), (3, .pointer (some ad2)), (8, .pointer (some ad19)), (12, .pointer (some ad64)), (17, .bool v90), (116, .bool true), (118, .int .u32 (vx 0 v56 2)), (119, .pointer (some ((ad19 : Addr).add ((0 : Int).toNat * 1))))]) (by kernel_rfl) ?_
      clear hs; intro a hs
      refine go_run hs (op := (Op.load 22 (Operand.tmp 119))) (ty := 22) (dst := some 120) (g := some (18, true)) (by kernel_rfl) (by kernel_rfl) (by kernel_rfl) (x_ld (E := eA36) (off := 0) (p := (ad19 : Addr).add ((0 : Int).toNat * 1)) (v := .int .u32 (vx 0 v56 0)) (Rd.of_own (hw.up 2)) (one_ok (#v[0, 0, 0, 0] : Vector Int 4)).1 (one_ok (#v[0, 0, 0, 0] : Vector Int 4)).2 (by kernel_rfl) (by simp only [add_add', Int.toNat_zero, Nat.zero_mul, Nat.zero_add, Nat.mul_one] <;> rfl) (by kernel_rfl) (by kernel_rfl)) [1, 2, 3, 8, 12, 17, 116, 118, 120] (L' := [(1, .int .u32 a1), (2, .int .u32 a2), (3, .pointer (some ad2)), (8, .pointer (some ad19)), (12, .pointer (some ad64)), (17, .bool v90), (116, .bool true), (118, .int .u32 (vx 0 v56 2)), (120, .int .u32 (vx 0 v56 0))]) (by kernel_rfl) ?_
      clear hs; intro a hs
      refine go_run hs (op := (Op.indexAddr 36 (Operand.tmp 8) (Operand.const (Value.int IntKind.i64 3)))) (ty := 0) (dst := some 121) (g := some (18, true)) (by kernel_rfl) (by kernel_rfl) (by kernel_rfl) (x_vidx (e := 22) (p := ad19) (n := 4) (k := .i64) (i := 3) (sz := 1) (by kernel_rfl) (by kernel_rfl) (by kernel_rfl) (by kernel_rfl) (⟨by decide, by decide⟩ : (0 : Int) ≤ 3 ∧ (3 : Int) < ((4 : Nat) : Int)).1 (⟨by decide, by decide⟩ : (0 : Int) ≤ 3 ∧ (3 : Int) < ((4 : Nat) : Int)).2) [1, 2, 3, 8, 12, 17, 116, 118, 120, 121] (L' := [(1, .int .u32 a1), (2, .int .u32 a2), (3, .pointer (some ad2)), (8, .pointer (some ad19)), (12, .pointer (some ad64)), (17, .bool v90), (116, .bool true), (118, .int .u32 (vx 0 v56 2)), (120, .int .u32 (vx 0 v56 0)), (121, .pointer (some ((ad19 : Addr).add ((3 : Int).toNat * 1))))]) (by kernel_rfl) ?_
      clear hs; intro a hs
      refine go_run hs (op := (Op.load 22 (Operand.tmp 121))) (ty := 22) (dst := some 122) (g := some (18, true)) (by kernel_rfl) (by kernel_rfl) (by kernel_rfl) (x_ld (E := eA36) (off := 3) (p := (ad19 : Addr).add ((3 : Int).toNat * 1)) (v := .int .u32 (vx 0 v56 3)) (Rd.of_own (hw.up 2)) (one_ok (#v[0, 0, 0, 0] : Vector Int 4)).1 (one_ok (#v[0, 0, 0, 0] : Vector Int 4)).2 (by kernel_rfl) (by simp only [add_add', Int.toNat_zero, Nat.zero_mul, Nat.zero_add, Nat.mul_one] <;> rfl) (by kernel_rfl) (by kernel_rfl)) [1, 2, 3, 8, 12, 17, 116, 118, 120, 122] (L' := [(1, .int .u32 a1), (2, .int .u32 a2), (3, .pointer (some ad2)), (8, .pointer (some ad19)), (12, .pointer (some ad64)), (17, .bool v90), (116, .bool true), (118, .int .u32 (vx 0 v56 2)), (120, .int .u32 (vx 0 v56 0)), (122, .int .u32 (vx 0 v56 3))]) (by kernel_rfl) ?_
      clear hs; intro a hs
      refine go_pvs 25 29 [1, 2, 3, 8, 12, 17, 126] hs (L' := [(1, .int .u32 a1), (2, .int .u32 a2), (3, .pointer (some ad2)), (8, .pointer (some ad19)), (12, .pointer (some ad64)), (17, .bool v90), (126, .bool ((vx 0 v56 2) == (bor .u32 (vx 0 v56 0) (vx 0 v56 3))))]) (by kernel_rfl) ?_ rfl
      clear hs; intro a hs
      cases hb95 : ((vx 0 v56 2) == (bor .u32 (vx 0 v56 0) (vx 0 v56 3)))
      ·replace H := ite_f H (beq_eq_false_iff_ne.1 hb95)
       rw [hb95] at hs
       refine go_pvs 29 56 [6] hs (L' := [(6, .bool false)]) (by kernel_rfl) ?_ rfl
       clear hs; intro a hs
       refine go_end (by kernel_rfl) ?_
       replace hw := hw.up 3
       replace hw := hw.up 3
       replace hw := hw.up 3
       replace hw := hw.up 3
       replace hw := hw.only 4
       exact hJ3 false _ _ (hs.keep [6] (by kernel_rfl)) hw H
      ·replace H := ite_t H (beq_iff_eq.1 hb95)
       rw [hb95] at hs
       refine go_run hs (op := (Op.indexAddr 36 (Operand.tmp 8) (Operand.const (Value.int IntKind.i64 0)))) (ty := 0) (dst := some 127) (g := some (28, true)) (by kernel_rfl) (by kernel_rfl) (by kernel_rfl) (x_vidx (e := 22) (p := ad19) (n := 4) (k := .i64) (i := 0) (sz := 1) (by kernel_rfl) (by kernel_rfl) (by kernel_rfl) (by kernel_rfl) (⟨by decide, by decide⟩ : (0 : Int) ≤ 0 ∧ (0 : Int) < ((4 : Nat) : Int)).1 (⟨by decide, by decide⟩ : (0 : Int) ≤ 0 ∧ (0 : Int) < ((4 : Nat) : Int)).2) [1, 2, 3, 8, 12, 17, 126, 127] (L' := [(1, .int .u32 a1), (2, .int .u32 a2), (3, .pointer (some ad2)), (8, .pointer (some ad19)), (12, .pointer (some ad64)), (17, .bool v90), (126, .bool true), (127, .pointer (some ((ad19 : Addr).add ((0 : Int).toNat * 1))))]) (by kernel_rfl) ?_
       clear hs; intro a hs
       refine go_run hs (op := (Op.load 22 (Operand.tmp 127))) (ty := 22) (dst := some 128) (g := some (28, true)) (by kernel_rfl) (by kernel_rfl) (by kernel_rfl) (x_ld (E := eA36) (off := 0) (p := (ad19 : Addr).add ((0 : Int).toNat * 1)) (v := .int .u32 (vx 0 v56 0)) (Rd.of_own (hw.up 2)) (one_ok (#v[0, 0, 0, 0] : Vector Int 4)).1 (one_ok (#v[0, 0, 0, 0] : Vector Int 4)).2 (by kernel_rfl) (by simp only [add_add', Int.toNat_zero, Nat.zero_mul, Nat.zero_add, Nat.mul_one] <;> rfl) (by kernel_rfl) (by kernel_rfl)) [1, 2, 3, 8, 12, 17, 126, 128] (L' := [(1, .int .u32 a1), (2, .int .u32 a2), (3, .pointer (some ad2)), (8, .pointer (some ad19)), (12, .pointer (some ad64)), (17, .bool v90), (126, .bool true), (128, .int .u32 (vx 0 v56 0))]) (by kernel_rfl) ?_
       clear hs; intro a hs
       refine go_run hs (op := (Op.indexAddr 36 (Operand.tmp 8) (Operand.const (Value.int IntKind.i64 3)))) (ty := 0) (dst := some 129) (g := some (28, true)) (by kernel_rfl) (by kernel_rfl) (by kernel_rfl) (x_vidx (e := 22) (p := ad19) (n := 4) (k := .i64) (i := 3) (sz := 1) (by kernel_rfl) (by kernel_rfl) (by kernel_rfl) (by kernel_rfl) (⟨by decide, by decide⟩ : (0 : Int) ≤ 3 ∧ (3 : Int) < ((4 : Nat) : Int)).1 (⟨by decide, by decide⟩ : (0 : Int) ≤ 3 ∧ (3 : Int) < ((4 : Nat) : Int)).2) [1, 2, 3, 8, 12, 17, 126, 128, 129] (L' := [(1, .int .u32 a1), (2, .int .u32 a2), (3, .pointer (some ad2)), (8, .pointer (some ad19)), (12, .pointer (some ad64)), (17, .bool v90), (126, .bool true), (128, .int .u32 (vx 0 v56 0)), (129, .pointer (some ((ad19 : Addr).add ((3 : Int).toNat * 1))))]) (by kernel_rfl) ?_
       clear hs; intro a hs
       refine go_run hs (op := (Op.load 22 (Operand.tmp 129))) (ty := 22) (dst := some 130) (g := some (28, true)) (by kernel_rfl) (by kernel_rfl) (by kernel_rfl) (x_ld (E := eA36) (off := 3) (p := (ad19 : Addr).add ((3 : Int).toNat * 1)) (v := .int .u32 (vx 0 v56 3)) (Rd.of_own (hw.up 2)) (one_ok (#v[0, 0, 0, 0] : Vector Int 4)).1 (one_ok (#v[0, 0, 0, 0] : Vector Int 4)).2 (by kernel_rfl) (by simp only [add_add', Int.toNat_zero, Nat.zero_mul, Nat.zero_add, Nat.mul_one] <;> rfl) (by kernel_rfl) (by kernel_rfl)) [1, 2, 3, 8, 12, 17, 126, 128, 130] (L' := [(1, .int .u32 a1), (2, .int .u32 a2), (3, .pointer (some ad2)), (8, .pointer (some ad19)), (12, .pointer (some ad64)), (17, .bool v90), (126, .bool true), (128, .int .u32 (vx 0 v56 0)), (130, .int .u32 (vx 0 v56 3))]) (by kernel_rfl) ?_
       clear hs; intro a hs
       refine go_pvs 33 37 [1, 2, 3, 8, 12, 17, 134] hs (L' := [(1, .int .u32 a1), (2, .int .u32 a2), (3, .pointer (some ad2)), (8, .pointer (some ad19)), (12, .pointer (some ad64)), (17, .bool v90), (134, .bool ((band .u32 (vx 0 v56 0) (vx 0 v56 3)) == 0))]) (by kernel_rfl) ?_ rfl
       clear hs; intro a hs
       cases hb96 : ((band .u32 (vx 0 v56 0) (vx 0 v56 3)) == 0)
       ·replace H := ite_f H (beq_eq_false_iff_ne.1 hb96)
        rw [hb96] at hs
        refine go_pvs 37 56 [6] hs (L' := [(6, .bool false)]) (by kernel_rfl) ?_ rfl
        clear hs; intro a hs
        refine go_end (by kernel_rfl) ?_
        replace hw := hw.up 3
        replace hw := hw.up 3
        replace hw := hw.up 3
        replace hw := hw.up 3
        replace hw := hw.only 4
        exact hJ3 false _ _ (hs.keep [6] (by kernel_rfl)) hw H
       ·replace H := ite_t H (beq_iff_eq.1 hb96)
        rw [hb96] at hs
        refine go_run hs (op := (Op.indexAddr 36 (Operand.tmp 8) (Operand.const (Value.int IntKind.i64 3)))) (ty := 0) (dst := some 135) (g := some (36, true)) (by kernel_rfl) (by kernel_rfl) (by kernel_rfl) (x_vidx (e := 22) (p := ad19) (n := 4) (k := .i64) (i := 3) (sz := 1) (by kernel_rfl) (by kernel_rfl) (by kernel_rfl) (by kernel_rfl) (⟨by decide, by decide⟩ : (0 : Int) ≤ 3 ∧ (3 : Int) < ((4 : Nat) : Int)).1 (⟨by decide, by decide⟩ : (0 : Int) ≤ 3 ∧ (3 : Int) < ((4 : Nat) : Int)).2) [1, 2, 3, 12, 17, 134, 135] (L' := [(1, .int .u32 a1), (2, .int .u32 a2), (3, .pointer (some ad2)), (12, .pointer (some ad64)), (17, .bool v90), (134, .bool true), (135, .pointer (some ((ad19 : Addr).add ((3 : Int).toNat * 1))))]) (by kernel_rfl) ?_
        clear hs; intro a hs
        refine go_run hs (op := (Op.load 22 (Operand.tmp 135))) (ty := 22) (dst := some 136) (g := some (36, true)) (by kernel_rfl) (by kernel_rfl) (by kernel_rfl) (x_ld (E := eA36) (off := 3) (p := (ad19 : Addr).add ((3 : Int).toNat * 1)) (v := .int .u32 (vx 0 v56 3)) (Rd.of_own (hw.up 2)) (one_ok (#v[0, 0, 0, 0] : Vector Int 4)).1 (one_ok (#v[0, 0, 0, 0] : Vector Int 4)).2 (by kernel_rfl) (by simp only [add_add', Int.toNat_zero, Nat.zero_mul, Nat.zero_add, Nat.mul_one] <;> rfl) (by kernel_rfl) (by kernel_rfl)) [1, 2, 3, 12, 17, 134, 136] (L' := [(1, .int .u32 a1), (2, .int .u32 a2), (3, .pointer (some ad2)), (12, .pointer (some ad64)), (17, .bool v90), (134, .bool true), (136, .int .u32 (vx 0 v56 3))]) (by kernel_rfl) ?_
        clear hs; intro a hs
        refine go_pvs 39 45 [3, 12, 17, 142] hs (L' := [(3, .pointer (some ad2)), (12, .pointer (some ad64)), (17, .bool v90), (142, .bool ((vx 0 v56 3) == (bxor .u32 a1 a2)))]) (by kernel_rfl) ?_ rfl
        clear hs; intro a hs
        cases hb97 : ((vx 0 v56 3) == (bxor .u32 a1 a2))
        ·replace H := ite_f H (beq_eq_false_iff_ne.1 hb97)
         rw [hb97] at hs
         refine go_pvs 45 56 [6] hs (L' := [(6, .bool false)]) (by kernel_rfl) ?_ rfl
         clear hs; intro a hs
         refine go_end (by kernel_rfl) ?_
         replace hw := hw.up 3
         replace hw := hw.up 3
         replace hw := hw.up 3
         replace hw := hw.up 3
         replace hw := hw.only 4
         exact hJ3 false _ _ (hs.keep [6] (by kernel_rfl)) hw H
        ·replace H := ite_t H (beq_iff_eq.1 hb97)
         rw [hb97] at hs
         refine go_pvs 45 46 [3, 17, 142, 143] hs (L' := [(3, .pointer (some ad2)), (17, .bool v90), (142, .bool true), (143, .pointer (some ((ad64 : Addr).add 0)))]) (by kernel_rfl) ?_ rfl
         clear hs; intro a hs
         refine go_run hs (op := (Op.indexAddr 23 (Operand.tmp 143) (Operand.const (Value.int IntKind.i64 4)))) (ty := 0) (dst := some 144) (g := some (44, true)) (by kernel_rfl) (by kernel_rfl) (by kernel_rfl) (x_vidx (e := 22) (p := (ad64 : Addr).add 0) (n := 16) (k := .i64) (i := 4) (sz := 1) (by kernel_rfl) (by kernel_rfl) (by kernel_rfl) (by kernel_rfl) (⟨by decide, by decide⟩ : (0 : Int) ≤ 4 ∧ (4 : Int) < ((16 : Nat) : Int)).1 (⟨by decide, by decide⟩ : (0 : Int) ≤ 4 ∧ (4 : Int) < ((16 : Nat) : Int)).2) [3, 17, 142, 144] (L' := [(3, .pointer (some ad2)), (17, .bool v90), (142, .bool true), (144, .pointer (some (((ad64 : Addr).add 0 : Addr).add ((4 : Int).toNat * 1))))]) (by kernel_rfl) ?_
         clear hs; intro a hs
         refine go_run hs (op := (Op.load 22 (Operand.tmp 144))) (ty := 22) (dst := some 145) (g := some (44, true)) (by kernel_rfl) (by kernel_rfl) (by kernel_rfl) (x_ld (E := eSapi_Regs) (off := 4) (p := ((ad64 : Addr).add 0 : Addr).add ((4 : Int).toNat * 1)) (v := .int .u32 (vx 0 ((t59 : Sapi_Regs).R) 4)) (Rd.of_own (hw.up 1)) (one_ok (t59 : Sapi_Regs)).1 (one_ok (t59 : Sapi_Regs)).2 (by kernel_rfl) (by simp only [add_add', Int.toNat_zero, Nat.zero_mul, Nat.zero_add, Nat.mul_one] <;> rfl) (by kernel_rfl) (by kernel_rfl)) [3, 17, 142, 145] (L' := [(3, .pointer (some ad2)), (17, .bool v90), (142, .bool true), (145, .int .u32 (vx 0 ((t59 : Sapi_Regs).R) 4))]) (by kernel_rfl) ?_
         clear hs; intro a hs
         refine go_pvs 48 49 [17, 142, 145, 146] hs (L' := [(17, .bool v90), (142, .bool true), (145, .int .u32 (vx 0 ((t59 : Sapi_Regs).R) 4)), (146, .pointer (some ((ad2 : Addr).add 16)))]) (by kernel_rfl) ?_ rfl
         clear hs; intro a hs
         refine go_run hs (op := (Op.load 22 (Operand.tmp 146))) (ty := 22) (dst := some 147) (g := some (44, true)) (by kernel_rfl) (by kernel_rfl) (by kernel_rfl) (x_ld (E := eSapi_Regs) (off := 16) (p := (ad2 : Addr).add 16) (v := .int .u32 a0.H) (Rd.of_own (hw.up 3)) (one_ok ({ ({ a0 with R := vset a0.R 1 a1 } : Sapi_Regs) with R := vset (vset a0.R 1 a1) 2 a2 } : Sapi_Regs)).1 (one_ok ({ ({ a0 with R := vset a0.R 1 a1 } : Sapi_Regs) with R := vset (vset a0.R 1 a1) 2 a2 } : Sapi_Regs)).2 (by kernel_rfl) (one_off _ _ _) (by kernel_rfl) (by kernel_rfl)) [17, 142, 145, 147] (L' := [(17, .bool v90), (142, .bool true), (145, .int .u32 (vx 0 ((t59 : Sapi_Regs).R) 4)), (147, .int .u32 a0.H)]) (by kernel_rfl) ?_
         clear hs; intro a hs
         refine go_pvs 50 53 [17, 150] hs (L' := [(17, .bool v90), (150, .bool ((vx 0 ((t59 : Sapi_Regs).R) 4) == a0.H))]) (by kernel_rfl) ?_ rfl
         clear hs; intro a hs
         cases hb98 : ((vx 0 ((t59 : Sapi_Regs).R) 4) == a0.H)
         ·replace H := ite_f H (beq_eq_false_iff_ne.1 hb98)
          rw [hb98] at hs
          refine go_pvs 53 56 [6] hs (L' := [(6, .bool false)]) (by kernel_rfl) ?_ rfl
          clear hs; intro a hs
          refine go_end (by kernel_rfl) ?_
          replace hw := hw.up 3
          replace hw := hw.up 3
          replace hw := hw.up 3
          replace hw := hw.up 3
          replace hw := hw.only 4
          exact hJ3 false _ _ (hs.keep [6] (by kernel_rfl)) hw H
         ·replace H := ite_t H (beq_iff_eq.1 hb98)
          rw [hb98] at hs
          refine go_pvs 53 56 [6] hs (L' := [(6, .bool v90)]) (by kernel_rfl) ?_ rfl
          clear hs; intro a hs
          refine go_end (by kernel_rfl) ?_
          replace hw := hw.up 3
          replace hw := hw.up 3
          replace hw := hw.up 3
          replace hw := hw.up 3
          replace hw := hw.only 4
          exact hJ3 v90 _ _ (hs.keep [6] (by kernel_rfl)) hw H
  refine go_region ?_
  refine go_pvs 0 4 [1, 2, 3, 7, 8, 12, 16, 62, 63] hs (L' := [(1, .int .u32 a1), (2, .int .u32 a2), (3, .pointer (some ad2)), (7, .bool t8), (8, .pointer (some ad19)), (12, .pointer (some ad64)), (16, .int .u32 y84), (62, .bool ((y84.fdiv (2 ^ 31)) == 1)), (63, .pointer (some ((ad2 : Addr).add 17)))]) (by kernel_rfl) ?_ rfl
  clear hs; intro a hs
  refine go_run hs (op := (Op.load 4 (Operand.tmp 63))) (ty := 4) (dst := some 64) (g := none) (by kernel_rfl) (by kernel_rfl) (by kernel_rfl) (x_ld (E := eSapi_Regs) (off := 17) (p := (ad2 : Addr).add 17) (v := .bool a0.N) (Rd.of_own (hw.up 3)) (one_ok ({ ({ a0 with R := vset a0.R 1 a1 } : Sapi_Regs) with R := vset (vset a0.R 1 a1) 2 a2 } : Sapi_Regs)).1 (one_ok ({ ({ a0 with R := vset a0.R 1 a1 } : Sapi_Regs) with R := vset (vset a0.R 1 a1) 2 a2 } : Sapi_Regs)).2 (by kernel_rfl) (one_off _ _ _) (by kernel_rfl) (by kernel_rfl)) [1, 2, 3, 7, 8, 12, 16, 62, 64] (L' := [(1, .int .u32 a1), (2, .int .u32 a2), (3, .pointer (some ad2)), (7, .bool t8), (8, .pointer (some ad19)), (12, .pointer (some ad64)), (16, .int .u32 y84), (62, .bool ((y84.fdiv (2 ^ 31)) == 1)), (64, .bool a0.N)]) (by kernel_rfl) ?_
  clear hs; intro a hs
  refine go_pvs 5 7 [1, 2, 3, 7, 8, 12, 16, 66] hs (L' := [(1, .int .u32 a1), (2, .int .u32 a2), (3, .pointer (some ad2)), (7, .bool t8), (8, .pointer (some ad19)), (12, .pointer (some ad64)), (16, .int .u32 y84), (66, .bool (((y84.fdiv (2 ^ 31)) == 1) == a0.N))]) (by kernel_rfl) ?_ rfl
  clear hs; intro a hs
  cases hb86 : (((y84.fdiv (2 ^ 31)) == 1) == a0.N)
  ·replace H := ite_f H (ff hb86)
   rw [hb86] at hs
   refine go_pvs 7 39 [1, 2, 3, 7, 8, 12, 17] hs (L' := [(1, .int .u32 a1), (2, .int .u32 a2), (3, .pointer (some ad2)), (7, .bool t8), (8, .pointer (some ad19)), (12, .pointer (some ad64)), (17, .bool false)]) (by kernel_rfl) ?_ rfl
   clear hs; intro a hs
   refine go_end (by kernel_rfl) ?_
   replace hw := hw.up 3
   replace hw := hw.up 3
   replace hw := hw.up 3
   replace hw := hw.up 3
   replace hw := hw.only 4
   exact hJ2 false _ _ (hs.keep [1, 2, 3, 7, 8, 12, 17] (by kernel_rfl)) hw H
  ·replace H := ite_t H hb86
   rw [hb86] at hs
   refine go_pvs 7 12 [1, 2, 3, 7, 8, 12, 16, 66, 70, 71] hs (L' := [(1, .int .u32 a1), (2, .int .u32 a2), (3, .pointer (some ad2)), (7, .bool t8), (8, .pointer (some ad19)), (12, .pointer (some ad64)), (16, .int .u32 y84), (66, .bool true), (70, .bool ((band .u32 (y84.fdiv (2 ^ 30)) 1) == 1)), (71, .pointer (some ((ad2 : Addr).add 18)))]) (by kernel_rfl) ?_ rfl
   clear hs; intro a hs
   refine go_run hs (op := (Op.load 4 (Operand.tmp 71))) (ty := 4) (dst := some 72) (g := some (6, true)) (by kernel_rfl) (by kernel_rfl) (by kernel_rfl) (x_ld (E := eSapi_Regs) (off := 18) (p := (ad2 : Addr).add 18) (v := .bool a0.Z) (Rd.of_own (hw.up 3)) (one_ok ({ ({ a0 with R := vset a0.R 1 a1 } : Sapi_Regs) with R := vset (vset a0.R 1 a1) 2 a2 } : Sapi_Regs)).1 (one_ok ({ ({ a0 with R := vset a0.R 1 a1 } : Sapi_Regs) with R := vset (vset a0.R 1 a1) 2 a2 } : Sapi_Regs)).2 (by kernel_rfl) (one_off _ _ _) (by kernel_rfl) (by kernel_rfl)) [1, 2, 3, 7, 8, 12, 16, 66, 70, 72] (L' := [(1, .int .u32 a1), (2, .int .u32 a2), (3, .pointer (some ad2)), (7, .bool t8), (8, .pointer (some ad19)), (12, .pointer (some ad64)), (16, .int .u32 y84), (66, .bool true), (70, .bool ((band .u32 (y84.fdiv (2 ^ 30)) 1) == 1)), (72, .bool a0.Z)]) (by kernel_rfl) ?_
   clear hs; intro a hs
   refine go_pvs 13 16 [1, 2, 3, 7, 8, 12, 16, 75] hs (L' := [(1, .int .u32 a1), (2, .int .u32 a2), (3, .pointer (some ad2)), (7, .bool t8), (8, .pointer (some ad19)), (12, .pointer (some ad64)), (16, .int .u32 y84), (75, .bool (((band .u32 (y84.fdiv (2 ^ 30)) 1) == 1) == a0.Z))]) (by kernel_rfl) ?_ rfl
   clear hs; intro a hs
   cases hb87 : (((band .u32 (y84.fdiv (2 ^ 30)) 1) == 1) == a0.Z)
   ·replace H := ite_f H (ff hb87)
    rw [hb87] at hs
    refine go_pvs 16 39 [1, 2, 3, 7, 8, 12, 17] hs (L' := [(1, .int .u32 a1), (2, .int .u32 a2), (3, .pointer (some ad2)), (7, .bool t8), (8, .pointer (some ad19)), (12, .pointer (some ad64)), (17, .bool false)]) (by kernel_rfl) ?_ rfl
    clear hs; intro a hs
    refine go_end (by kernel_rfl) ?_
    replace hw := hw.up 3
    replace hw := hw.up 3
    replace hw := hw.up 3
    replace hw := hw.up 3
    replace hw := hw.only 4
    exact hJ2 false _ _ (hs.keep [1, 2, 3, 7, 8, 12, 17] (by kernel_rfl)) hw H
   ·replace H := ite_t H hb87
    rw [hb87] at hs
    refine go_pvs 16 21 [1, 2, 3, 7, 8, 12, 16, 75, 79, 80] hs (L' := [(1, .int .u32 a1), (2, .int .u32 a2), (3, .pointer (some ad2)), (7, .bool t8), (8, .pointer (some ad19)), (12, .pointer (some ad64)), (16, .int .u32 y84), (75, .bool true), (79, .bool ((band .u32 (y84.fdiv (2 ^ 29)) 1) == 1)), (80, .pointer (some ((ad2 : Addr).add 19)))]) (by kernel_rfl) ?_ rfl
    clear hs; intro a hs
    refine go_run hs (op := (Op.load 4 (Operand.tmp 80))) (ty := 4) (dst := some 81) (g := some (15, true)) (by kernel_rfl) (by kernel_rfl) (by kernel_rfl) (x_ld (E := eSapi_Regs) (off := 19) (p := (ad2 : Addr).add 19) (v := .bool a0.C) (Rd.of_own (hw.up 3)) (one_ok ({ ({ a0 with R := vset a0.R 1 a1 } : Sapi_Regs) with R := vset (vset a0.R 1 a1) 2 a2 } : Sapi_Regs)).1 (one_ok ({ ({ a0 with R := vset a0.R 1 a1 } : Sapi_Regs) with R := vset (vset a0.R 1 a1) 2 a2 } : Sapi_Regs)).2 (by kernel_rfl) (one_off _ _ _) (by kernel_rfl) (by kernel_rfl)) [1, 2, 3, 7, 8, 12, 16, 75, 79, 81] (L' := [(1, .int .u32 a1), (2, .int .u32 a2), (3, .pointer (some ad2)), (7, .bool t8), (8, .pointer (some ad19)), (12, .pointer (some ad64)), (16, .int .u32 y84), (75, .bool true), (79, .bool ((band .u32 (y84.fdiv (2 ^ 29)) 1) == 1)), (81, .bool a0.C)]) (by kernel_rfl) ?_
    clear hs; intro a hs
    refine go_pvs 22 25 [1, 2, 3, 7, 8, 12, 16, 84] hs (L' := [(1, .int .u32 a1), (2, .int .u32 a2), (3, .pointer (some ad2)), (7, .bool t8), (8, .pointer (some ad19)), (12, .pointer (some ad64)), (16, .int .u32 y84), (84, .bool (((band .u32 (y84.fdiv (2 ^ 29)) 1) == 1) == a0.C))]) (by kernel_rfl) ?_ rfl
    clear hs; intro a hs
    cases hb88 : (((band .u32 (y84.fdiv (2 ^ 29)) 1) == 1) == a0.C)
    ·replace H := ite_f H (ff hb88)
     rw [hb88] at hs
     refine go_pvs 25 39 [1, 2, 3, 7, 8, 12, 17] hs (L' := [(1, .int .u32 a1), (2, .int .u32 a2), (3, .pointer (some ad2)), (7, .bool t8), (8, .pointer (some ad19)), (12, .pointer (some ad64)), (17, .bool false)]) (by kernel_rfl) ?_ rfl
     clear hs; intro a hs
     refine go_end (by kernel_rfl) ?_
     replace hw := hw.up 3
     replace hw := hw.up 3
     replace hw := hw.up 3
     replace hw := hw.up 3
     replace hw := hw.only 4
     exact hJ2 false _ _ (hs.keep [1, 2, 3, 7, 8, 12, 17] (by kernel_rfl)) hw H
    ·replace H := ite_t H hb88
     rw [hb88] at hs
     refine go_pvs 25 30 [1, 2, 3, 7, 8, 12, 16, 84, 88, 89] hs (L' := [(1, .int .u32 a1), (2, .int .u32 a2), (3, .pointer (some ad2)), (7, .bool t8), (8, .pointer (some ad19)), (12, .pointer (some ad64)), (16, .int .u32 y84), (84, .bool true), (88, .bool ((band .u32 (y84.fdiv (2 ^ 28)) 1) == 1)), (89, .pointer (some ((ad2 : Addr).add 20)))]) (by kernel_rfl) ?_ rfl
     clear hs; intro a hs
     refine go_run hs (op := (Op.load 4 (Operand.tmp 89))) (ty := 4) (dst := some 90) (g := some (24, true)) (by kernel_rfl) (by kernel_rfl) (by kernel_rfl) (x_ld (E := eSapi_Regs) (off := 20) (p := (ad2 : Addr).add 20) (v := .bool a0.V) (Rd.of_own (hw.up 3)) (one_ok ({ ({ a0 with R := vset a0.R 1 a1 } : Sapi_Regs) with R := vset (vset a0.R 1 a1) 2 a2 } : Sapi_Regs)).1 (one_ok ({ ({ a0 with R := vset a0.R 1 a1 } : Sapi_Regs) with R := vset (vset a0.R 1 a1) 2 a2 } : Sapi_Regs)).2 (by kernel_rfl) (one_off _ _ _) (by kernel_rfl) (by kernel_rfl)) [1, 2, 3, 7, 8, 12, 16, 84, 88, 90] (L' := [(1, .int .u32 a1), (2, .int .u32 a2), (3, .pointer (some ad2)), (7, .bool t8), (8, .pointer (some ad19)), (12, .pointer (some ad64)), (16, .int .u32 y84), (84, .bool true), (88, .bool ((band .u32 (y84.fdiv (2 ^ 28)) 1) == 1)), (90, .bool a0.V)]) (by kernel_rfl) ?_
     clear hs; intro a hs
     refine go_pvs 31 34 [1, 2, 3, 7, 8, 12, 16, 93] hs (L' := [(1, .int .u32 a1), (2, .int .u32 a2), (3, .pointer (some ad2)), (7, .bool t8), (8, .pointer (some ad19)), (12, .pointer (some ad64)), (16, .int .u32 y84), (93, .bool (((band .u32 (y84.fdiv (2 ^ 28)) 1) == 1) == a0.V))]) (by kernel_rfl) ?_ rfl
     clear hs; intro a hs
     cases hb89 : (((band .u32 (y84.fdiv (2 ^ 28)) 1) == 1) == a0.V)
     ·replace H := ite_f H (ff hb89)
      rw [hb89] at hs
      refine go_pvs 34 39 [1, 2, 3, 7, 8, 12, 17] hs (L' := [(1, .int .u32 a1), (2, .int .u32 a2), (3, .pointer (some ad2)), (7, .bool t8), (8, .pointer (some ad19)), (12, .pointer (some ad64)), (17, .bool false)]) (by kernel_rfl) ?_ rfl
      clear hs; intro a hs
      refine go_end (by kernel_rfl) ?_
      replace hw := hw.up 3
      replace hw := hw.up 3
      replace hw := hw.up 3
      replace hw := hw.up 3
      replace hw := hw.only 4
      exact hJ2 false _ _ (hs.keep [1, 2, 3, 7, 8, 12, 17] (by kernel_rfl)) hw H
     ·replace H := ite_t H hb89
      rw [hb89] at hs
      refine go_pvs 34 39 [1, 2, 3, 7, 8, 12, 17] hs (L' := [(1, .int .u32 a1), (2, .int .u32 a2), (3, .pointer (some ad2)), (7, .bool t8), (8, .pointer (some ad19)), (12, .pointer (some ad64)), (17, .bool ((wu32 (y84 * 2 ^ 4)) == 0))]) (by kernel_rfl) ?_ rfl
      clear hs; intro a hs
      refine go_end (by kernel_rfl) ?_
      replace hw := hw.up 3
      replace hw := hw.up 3
      replace hw := hw.up 3
      replace hw := hw.up 3
      replace hw := hw.only 4
      exact hJ2 ((wu32 (y84 * 2 ^ 4)) == 0) _ _ (hs.keep [1, 2, 3, 7, 8, 12, 17] (by kernel_rfl)) hw H
 clear H
 refine go_loop (σ := (Vector Int 4) × Int) (fun σ a w => Slots a 153 [(1, .int .u32 a1), (2, .int .u32 a2), (3, .pointer (some ad2)), (7, .bool t8), (8, .pointer (some ad19)), (9, .int .i64 σ.2)] ∧ St [] w0 w [own 36 eA36 (some ad19) 1 [σ.1], own 25 eSapi_Regs (some ad2) 1 [({ ({ a0 with R := vset a0.R 1 a1 } : Sapi_Regs) with R := vset (vset a0.R 1 a1) 2 a2 } : Sapi_Regs)]]) hl27 (by exact ⟨hs.keep [1, 2, 3, 7, 8, 9] (by kernel_rfl), hw⟩) ?_
 rintro ⟨v28, v29⟩ a w ⟨hs, hw⟩ o H hr27
 replace hs : Slots a 153 [(1, .int .u32 a1), (2, .int .u32 a2), (3, .pointer (some ad2)), (7, .bool t8), (8, .pointer (some ad19)), (9, .int .i64 v29)] := hs
 replace hw : St [] w0 w [own 36 eA36 (some ad19) 1 [v28], own 25 eSapi_Regs (some ad2) 1 [({ ({ a0 with R := vset a0.R 1 a1 } : Sapi_Regs) with R := vset (vset a0.R 1 a1) 2 a2 } : Sapi_Regs)]] := hw
 replace H : rivetlaw04_AluBits.b27 a0 a1 a2 v28 v29 = some o := H
 unfold rivetlaw04_AluBits.b27 at H
 refine go_seq_k fun K30 hK30 => ?_
 refine go_seq_k fun K31 hK31 => ?_
 refine go_region ?_
 refine go_pvs 0 2 [1, 2, 3, 7, 8, 9, 27] hs (L' := [(1, .int .u32 a1), (2, .int .u32 a2), (3, .pointer (some ad2)), (7, .bool t8), (8, .pointer (some ad19)), (9, .int .i64 v29), (27, .bool (decide (v29 < 4)))]) (by kernel_rfl) ?_ rfl
 clear hs; intro a hs
 refine go_end (by kernel_rfl) ?_
 refine hK31 _ _ ?_
 refine go_cond hs (decide (v29 < 4)) (by kernel_rfl) (fun hc => ?_) (fun hc => ?_)
 ·replace H := ite_t H (of_decide_eq_true hc)
  have hb32 := hc
  rw [hb32] at hs
  refine wp_skip ?_
  refine hK30 _ _ ?_
  refine go_seq_k fun K33 hK33 => ?_
  refine wp_block ?_
  refine go_seq_k fun K34 hK34 => ?_
  refine go_region ?_
  refine go_run hs (op := (Op.load 25 (Operand.tmp 3))) (ty := 25) (dst := some 31) (g := none) (by kernel_rfl) (by kernel_rfl) (by kernel_rfl) (x_lds (E := eSapi_Regs) (off := 0) (p := ad2) (cs := (eSapi_Regs.enc ({ ({ a0 with R := vset a0.R 1 a1 } : Sapi_Regs) with R := vset (vset a0.R 1 a1) 2 a2 } : Sapi_Regs))) (Rd.of_own (hw.up 1)) (one_ok ({ ({ a0 with R := vset a0.R 1 a1 } : Sapi_Regs) with R := vset (vset a0.R 1 a1) 2 a2 } : Sapi_Regs)).1 (one_ok ({ ({ a0 with R := vset a0.R 1 a1 } : Sapi_Regs) with R := vset (vset a0.R 1 a1) 2 a2 } : Sapi_Regs)).2 (by kernel_rfl) (one_at _ _) (by kernel_rfl) (by kernel_rfl) (by kernel_rfl)) [1, 2, 3, 7, 8, 9, 31] (L' := [(1, .int .u32 a1), (2, .int .u32 a2), (3, .pointer (some ad2)), (7, .bool t8), (8, .pointer (some ad19)), (9, .int .i64 v29), (31, .agg (eSapi_Regs.enc ({ ({ a0 with R := vset a0.R 1 a1 } : Sapi_Regs) with R := vset (vset a0.R 1 a1) 2 a2 } : Sapi_Regs)).toArray)]) (by kernel_rfl) ?_
  clear hs; intro a hs
  refine go_pvs 1 4 [1, 2, 3, 7, 8, 9, 31, 34] hs (L' := [(1, .int .u32 a1), (2, .int .u32 a2), (3, .pointer (some ad2)), (7, .bool t8), (8, .pointer (some ad19)), (9, .int .i64 v29), (31, .agg (eSapi_Regs.enc ({ ({ a0 with R := vset a0.R 1 a1 } : Sapi_Regs) with R := vset (vset a0.R 1 a1) 2 a2 } : Sapi_Regs)).toArray), (34, .agg (eSapi_Instr.enc (⟨1, w64 (4 + v29), 3, 1, 2, 0, false⟩ : Sapi_Instr)).toArray)]) (by kernel_rfl) ?_ rfl
  clear hs; intro a hs
  obtain ⟨⟨t36, t37⟩, hx38, H⟩ := bind_some H
  refine go_call hs (op := (Op.call { callee := (Callee.value (Operand.func 12)), args := #[(Operand.tmp 31), (Operand.tmp 34)], argTypes := #[25, 27] })) (ty := 30) (dst := some 35) (g := none) (by kernel_rfl) (by kernel_rfl) (by kernel_rfl) (f := 12) (args := #[.agg (eSapi_Regs.enc ({ ({ a0 with R := vset a0.R 1 a1 } : Sapi_Regs) with R := vset (vset a0.R 1 a1) 2 a2 } : Sapi_Regs)).toArray, .agg (eSapi_Instr.enc (⟨1, w64 (4 + v29), 3, 1, 2, 0, false⟩ : Sapi_Instr)).toArray]) (by kernel_rfl) (alu_Do.calls ({ ({ a0 with R := vset a0.R 1 a1 } : Sapi_Regs) with R := vset (vset a0.R 1 a1) 2 a2 } : Sapi_Regs) (⟨1, w64 (4 + v29), 3, 1, 2, 0, false⟩ : Sapi_Instr) (t36, t37) _ hx38) ?_
  rintro e wd39 ⟨rfl, hw40⟩
  refine ⟨_, rfl, ?_⟩
  replace hw := hw.call hw40
  intro a hs1
  replace hs : Slots a 153 [(1, .int .u32 a1), (2, .int .u32 a2), (3, .pointer (some ad2)), (7, .bool t8), (8, .pointer (some ad19)), (9, .int .i64 v29), (35, .tuple #[.agg (eSapi_Regs.enc t36).toArray, .int .i64 t37])] := hs1.keep [1, 2, 3, 7, 8, 9, 35] (by kernel_rfl)
  clear hs1
  refine go_pvs 5 8 [1, 2, 3, 7, 8, 9, 36, 37] hs (L' := [(1, .int .u32 a1), (2, .int .u32 a2), (3, .pointer (some ad2)), (7, .bool t8), (8, .pointer (some ad19)), (9, .int .i64 v29), (36, .agg (eSapi_Regs.enc t36).toArray), (37, .int .i64 t37)]) (by kernel_rfl) ?_ rfl
  clear hs; intro a hs
  obtain ⟨ad41, wd42, hx43, hw⟩ := x_alloc1 (P := Try.prog) (elem := 25) (ty := 0) (z := .agg (eSapi_Regs.enc (⟨(Vector.replicate 16 0), 0, false, false, false, false⟩ : Sapi_Regs)).toArray) hs hw eSapi_Regs (⟨(Vector.replicate 16 0), 0, false, false, false, false⟩ : Sapi_Regs) (by kernel_rfl) (by kernel_rfl)
  refine go_run hs (op := (Op.alloc 25)) (ty := 0) (dst := some 10) (g := none) (by kernel_rfl) (by kernel_rfl) (by kernel_rfl) hx43 [1, 2, 3, 7, 8, 9, 10, 36, 37] (L' := [(1, .int .u32 a1), (2, .int .u32 a2), (3, .pointer (some ad2)), (7, .bool t8), (8, .pointer (some ad19)), (9, .int .i64 v29), (10, .pointer (some ad41)), (36, .agg (eSapi_Regs.enc t36).toArray), (37, .int .i64 t37)]) (by kernel_rfl) ?_
  clear hs; intro a hs
  obtain ⟨wd45, hx46, hw⟩ := x_put (P := Try.prog) (ty := 0) (t := 25) (x := (Operand.tmp 10)) (y := (Operand.tmp 36)) (off := 0) (p := ad41) (v := .agg (eSapi_Regs.enc t36).toArray) (vs := (eSapi_Regs.enc t36)) (i := 0) (e' := ((t36 : Sapi_Regs) : Sapi_Regs)) hs hw rfl (one_ok (⟨(Vector.replicate 16 0), 0, false, false, false, false⟩ : Sapi_Regs)).1 (one_ok (⟨(Vector.replicate 16 0), 0, false, false, false, false⟩ : Sapi_Regs)).2 (by kernel_rfl) (one_at _ _) (by kernel_rfl) rfl (by kernel_rfl) (Nat.le_of_ble_eq_true rfl) (eSapi_Regs.one _) (by kernel_rfl)
  refine go_unit hs (op := (Op.store 25 (Operand.tmp 10) (Operand.tmp 36))) (ty := 0) (dst := none) (g := none) (by kernel_rfl) (by kernel_rfl) (by kernel_rfl) hx46 [1, 2, 3, 7, 8, 9, 10, 37] (L' := [(1, .int .u32 a1), (2, .int .u32 a2), (3, .pointer (some ad2)), (7, .bool t8), (8, .pointer (some ad19)), (9, .int .i64 v29), (10, .pointer (some ad41)), (37, .int .i64 t37)]) (by kernel_rfl) ?_
  clear hs; intro a hs
  replace hw : St [] w0 wd45 [own 25 eSapi_Regs (some ad41) 1 [(t36 : Sapi_Regs)], own 36 eA36 (some ad19) 1 [v28], own 25 eSapi_Regs (some ad2) 1 [({ ({ a0 with R := vset a0.R 1 a1 } : Sapi_Regs) with R := vset (vset a0.R 1 a1) 2 a2 } : Sapi_Regs)]] := hw
  refine go_pvs 10 11 [1, 2, 3, 7, 8, 9, 10, 11] hs (L' := [(1, .int .u32 a1), (2, .int .u32 a2), (3, .pointer (some ad2)), (7, .bool t8), (8, .pointer (some ad19)), (9, .int .i64 v29), (10, .pointer (some ad41)), (11, .int .i64 t37)]) (by kernel_rfl) ?_ rfl
  clear hs; intro a hs
  refine go_end (by kernel_rfl) ?_
  refine hK34 _ _ ?_
  refine go_seq_k fun K47 hK47 => ?_
  refine go_seq_k fun K48 hK48 => ?_
  refine go_region ?_
  refine go_pvs 0 2 [1, 2, 3, 7, 8, 9, 10, 39] hs (L' := [(1, .int .u32 a1), (2, .int .u32 a2), (3, .pointer (some ad2)), (7, .bool t8), (8, .pointer (some ad19)), (9, .int .i64 v29), (10, .pointer (some ad41)), (39, .bool (t37 != 0))]) (by kernel_rfl) ?_ rfl
  clear hs; intro a hs
  refine go_end (by kernel_rfl) ?_
  refine hK48 _ _ ?_
  refine go_cond hs (t37 != 0) (by kernel_rfl) (fun hc => ?_) (fun hc => ?_)
  ·replace H := ite_f H (bne_iff_ne.1 hc)
   have hb49 := hc
   rw [hb49] at hs
   refine go_seq_k fun K50 hK50 => ?_
   refine go_region ?_
   refine go_pvs 0 1 [6] hs (L' := [(6, .bool false)]) (by kernel_rfl) ?_ rfl
   clear hs; intro a hs
   refine go_end (by kernel_rfl) ?_
   refine hK50 _ _ ?_
   refine wp_ret ?_
   refine th_ret ?_
   refine ib_ret ?_
   refine th_ret ?_
   refine th_ret ?_
   refine ib_ret ?_
   refine th_ret ?_
   rw [← hr27 _ (Option.some.inj H).symm] at HX27
   replace H : some false = some r := HX27
   obtain rfl := Option.some.inj H
   refine ret1 (t := 6) (v := .bool false) hs (by kernel_rfl) (by kernel_rfl) ?_
   exact ⟨rfl, hw.only 0⟩
  ·replace H := ite_t H (bne_eq_false_iff_eq.1 hc)
   have hb51 := hc
   rw [hb51] at hs
   refine wp_skip ?_
   refine hK47 _ _ ?_
   refine go_region ?_
   refine go_pvs 0 2 [1, 2, 3, 7, 8, 9, 40, 41] hs (L' := [(1, .int .u32 a1), (2, .int .u32 a2), (3, .pointer (some ad2)), (7, .bool t8), (8, .pointer (some ad19)), (9, .int .i64 v29), (40, .int .i64 v29), (41, .pointer (some ((ad41 : Addr).add 0)))]) (by kernel_rfl) ?_ rfl
   clear hs; intro a hs
   refine go_run hs (op := (Op.indexAddr 23 (Operand.tmp 41) (Operand.const (Value.int IntKind.i64 3)))) (ty := 0) (dst := some 42) (g := none) (by kernel_rfl) (by kernel_rfl) (by kernel_rfl) (x_vidx (e := 22) (p := (ad41 : Addr).add 0) (n := 16) (k := .i64) (i := 3) (sz := 1) (by kernel_rfl) (by kernel_rfl) (by kernel_rfl) (by kernel_rfl) (⟨by decide, by decide⟩ : (0 : Int) ≤ 3 ∧ (3 : Int) < ((16 : Nat) : Int)).1 (⟨by decide, by decide⟩ : (0 : Int) ≤ 3 ∧ (3 : Int) < ((16 : Nat) : Int)).2) [1, 2, 3, 7, 8, 9, 40, 42] (L' := [(1, .int .u32 a1), (2, .int .u32 a2), (3, .pointer (some ad2)), (7, .bool t8), (8, .pointer (some ad19)), (9, .int .i64 v29), (40, .int .i64 v29), (42, .pointer (some (((ad41 : Addr).add 0 : Addr).add ((3 : Int).toNat * 1))))]) (by kernel_rfl) ?_
   clear hs; intro a hs
   refine go_run hs (op := (Op.load 22 (Operand.tmp 42))) (ty := 22) (dst := some 43) (g := none) (by kernel_rfl) (by kernel_rfl) (by kernel_rfl) (x_ld (E := eSapi_Regs) (off := 3) (p := ((ad41 : Addr).add 0 : Addr).add ((3 : Int).toNat * 1)) (v := .int .u32 (vx 0 ((t36 : Sapi_Regs).R) 3)) (Rd.of_own (hw.up 0)) (one_ok (t36 : Sapi_Regs)).1 (one_ok (t36 : Sapi_Regs)).2 (by kernel_rfl) (by simp only [add_add', Int.toNat_zero, Nat.zero_mul, Nat.zero_add, Nat.mul_one] <;> rfl) (by kernel_rfl) (by kernel_rfl)) [1, 2, 3, 7, 8, 9, 40, 43] (L' := [(1, .int .u32 a1), (2, .int .u32 a2), (3, .pointer (some ad2)), (7, .bool t8), (8, .pointer (some ad19)), (9, .int .i64 v29), (40, .int .i64 v29), (43, .int .u32 (vx 0 ((t36 : Sapi_Regs).R) 3))]) (by kernel_rfl) ?_
   clear hs; intro a hs
   obtain ⟨hp52, H⟩ := ite_only H
   refine go_run hs (op := (Op.indexAddr 36 (Operand.tmp 8) (Operand.tmp 40))) (ty := 0) (dst := some 44) (g := none) (by kernel_rfl) (by kernel_rfl) (by kernel_rfl) (x_vidx (e := 22) (p := ad19) (n := 4) (k := .i64) (i := v29) (sz := 1) (by kernel_rfl) (by kernel_rfl) (by kernel_rfl) (by kernel_rfl) hp52.1 hp52.2) [1, 2, 3, 7, 8, 9, 43, 44] (L' := [(1, .int .u32 a1), (2, .int .u32 a2), (3, .pointer (some ad2)), (7, .bool t8), (8, .pointer (some ad19)), (9, .int .i64 v29), (43, .int .u32 (vx 0 ((t36 : Sapi_Regs).R) 3)), (44, .pointer (some ((ad19 : Addr).add ((v29 : Int).toNat * 1))))]) (by kernel_rfl) ?_
   clear hs; intro a hs
   replace hw := hw.up 1
   obtain ⟨wd53, hx54, hw⟩ := x_put (P := Try.prog) (ty := 0) (t := 22) (x := (Operand.tmp 44)) (y := (Operand.tmp 43)) (off := 0 + (v29 : Int).toNat * 1) (p := (ad19 : Addr).add ((v29 : Int).toNat * 1)) (v := .int .u32 (vx 0 ((t36 : Sapi_Regs).R) 3)) (vs := [.int .u32 (vx 0 ((t36 : Sapi_Regs).R) 3)]) (i := 0) (e' := (vset v28 (v29 : Int).toNat (vx 0 ((t36 : Sapi_Regs).R) 3) : Vector Int 4)) hs hw rfl (one_ok (#v[0, 0, 0, 0] : Vector Int 4)).1 (one_ok (#v[0, 0, 0, 0] : Vector Int 4)).2 (by kernel_rfl) (by simp only [add_add', Int.toNat_zero, Nat.zero_mul, Nat.zero_add, Nat.mul_one] <;> rfl) (by kernel_rfl) rfl (by kernel_rfl) (by have := hp52; show 0 + _ * 1 + 1 ≤ 4; omega) (by simp [Value.oneCell']) (vput (cs := eA36.enc v28) (cs' := eA36.enc (vset v28 (v29 : Int).toNat (vx 0 ((t36 : Sapi_Regs).R) 3))) (pre := []) (post := []) (f := (fun j : Nat => .int .u32 (vx 0 v28 j))) (f' := (fun j : Nat => .int .u32 (vx 0 (vset v28 (v29 : Int).toNat (vx 0 ((t36 : Sapi_Regs).R) 3)) j))) (n := 4) (o := 0) (i := (v29 : Int).toNat) (v := .int .u32 (vx 0 ((t36 : Sapi_Regs).R) 3)) (by kernel_rfl) (by kernel_rfl) rfl (by have := hp52; omega) (vx_put (by have := hp52; omega)))
   refine go_unit hs (op := (Op.store 22 (Operand.tmp 44) (Operand.tmp 43))) (ty := 0) (dst := none) (g := none) (by kernel_rfl) (by kernel_rfl) (by kernel_rfl) hx54 [1, 2, 3, 7, 8, 9] (L' := [(1, .int .u32 a1), (2, .int .u32 a2), (3, .pointer (some ad2)), (7, .bool t8), (8, .pointer (some ad19)), (9, .int .i64 v29)]) (by kernel_rfl) ?_
   clear hs; intro a hs
   replace hw : St [] w0 wd53 [own 36 eA36 (some ad19) 1 [vset v28 (v29 : Int).toNat (vx 0 ((t36 : Sapi_Regs).R) 3)], own 25 eSapi_Regs (some ad41) 1 [(t36 : Sapi_Regs)], own 25 eSapi_Regs (some ad2) 1 [({ ({ a0 with R := vset a0.R 1 a1 } : Sapi_Regs) with R := vset (vset a0.R 1 a1) 2 a2 } : Sapi_Regs)]] := hw
   refine go_end (by kernel_rfl) ?_
   refine ib_norm ?_
   refine hK33 _ _ ?_
   refine go_region ?_
   refine go_pvs 0 3 [1, 2, 3, 7, 8, 9] hs (L' := [(1, .int .u32 a1), (2, .int .u32 a2), (3, .pointer (some ad2)), (7, .bool t8), (8, .pointer (some ad19)), (9, .int .i64 (w64 (v29 + 1)))]) (by kernel_rfl) ?_ rfl
   clear hs; intro a hs
   refine go_end (by kernel_rfl) ?_
   replace hw := hw.up 2
   replace hw := hw.up 1
   replace hw := hw.only 2
   exact round_end (vset v28 (v29 : Int).toNat (vx 0 ((t36 : Sapi_Regs).R) 3), w64 (v29 + 1)) (Option.some.inj H).symm ⟨hs.keep [1, 2, 3, 7, 8, 9] (by kernel_rfl), hw⟩
 ·replace H := ite_f H (of_decide_eq_false hc)
  have hb55 := hc
  rw [hb55] at hs
  refine wp_exit ?_
  refine th_exit ?_
  refine th_exit ?_
  refine in_block ?_
  replace hw := hw.up 1
  replace hw := hw.up 1
  replace hw := hw.only 2
  rw [← hr27 _ (Option.some.inj H).symm] at HX27
  exact hJ1 v28 _ _ (hs.keep [1, 2, 3, 7, 8] (by kernel_rfl)) hw HX27

end Go.Proofs.Ytckefpenekolhaa.T04
