/- YtheccnbamcdpmaaT06zMachineOps: Go functions told as plain ones, each with a proof that its call comes to what is told, part 1. Condition of each: that the plain function comes to a value. -/
import Derived.Test.YtheccnbamcdpmaaT06
import Derived.Test.YtheccnbamcdpmaaEP
import Derived.Test.YtheccnbamcdpmaaProg
namespace Go.Proofs.Ytheccnbamcdpmaa.T06
open Go Go.RowKit Go.Proofs.Ytheccnbamcdpmaa.E
set_option linter.unusedVariables false
set_option linter.unusedSimpArgs false
def eA24 : Enc (Vector Int 16) := ⟨16, fun x => [.int .u32 (vx 0 x 0), .int .u32 (vx 0 x 1), .int .u32 (vx 0 x 2), .int .u32 (vx 0 x 3), .int .u32 (vx 0 x 4), .int .u32 (vx 0 x 5), .int .u32 (vx 0 x 6), .int .u32 (vx 0 x 7), .int .u32 (vx 0 x 8), .int .u32 (vx 0 x 9), .int .u32 (vx 0 x 10), .int .u32 (vx 0 x 11), .int .u32 (vx 0 x 12), .int .u32 (vx 0 x 13), .int .u32 (vx 0 x 14), .int .u32 (vx 0 x 15)], (Vector.replicate 16 0), by decide, fun _ => rfl, fun x u hu => by simp at hu; rcases hu with rfl | rfl | rfl | rfl | rfl | rfl | rfl | rfl | rfl | rfl | rfl | rfl | rfl | rfl | rfl | rfl <;> rfl⟩
/-! rivet/rivetlaw06.MachineOps: function 4 -/
noncomputable def rivetlaw06_MachineOps.j2 : Option Bool := some false
noncomputable def rivetlaw06_MachineOps.j6 (v139 : Bool) : Option Bool := some v139
noncomputable def rivetlaw06_MachineOps.j5 (t104 : Int) (t115 : Int) (t105 : Smachine_Machine) (t114 : Sapi_Regs) (v129 : Int) : Option Bool := (if t104 = t115 then ((machine_Machine_Regs t105).bind fun t133 => ((if ((decide (t133.R = ((t114 : Sapi_Regs).R))) && ((t133.H == ((t114 : Sapi_Regs).H)) && ((t133.N == ((t114 : Sapi_Regs).N)) && ((t133.Z == ((t114 : Sapi_Regs).Z)) && ((t133.C == ((t114 : Sapi_Regs).C)) && ((t133.V == ((t114 : Sapi_Regs).V)) && true)))))) = true then ((machine_Machine_PC t105).bind fun t137 => (rivetlaw06_MachineOps.j6 (t137 == v129))) else rivetlaw06_MachineOps.j6 false))) else rivetlaw06_MachineOps.j6 false)
noncomputable def rivetlaw06_MachineOps.j9 (v183 : Bool) : Option Bool := some v183
noncomputable def rivetlaw06_MachineOps.j8 (t104 : Int) (t105 : Smachine_Machine) (v172 : Sapi_Regs) (v173 : Int) : Option Bool := (if t104 = 0 then ((machine_Machine_Regs t105).bind fun t177 => ((if ((decide (t177.R = v172.R)) && ((t177.H == v172.H) && ((t177.N == v172.N) && ((t177.Z == v172.Z) && ((t177.C == v172.C) && ((t177.V == v172.V) && true)))))) = true then ((machine_Machine_PC t105).bind fun t181 => (rivetlaw06_MachineOps.j9 (t181 == v173))) else rivetlaw06_MachineOps.j9 false))) else rivetlaw06_MachineOps.j9 false)
noncomputable def rivetlaw06_MachineOps.j7 (v39 : Sapi_Instr) (t104 : Int) (t105 : Smachine_Machine) (a1 : Srivetlaw06_Set) (y72 : Int) (v165 : Int) : Option Bool := (if v39.U = true then rivetlaw06_MachineOps.j8 t104 t105 ({ (a1.S : Sapi_Regs) with R := vset ((a1.S : Sapi_Regs).R) 15 (wu32 (y72 + 4)) } : Sapi_Regs) v165 else rivetlaw06_MachineOps.j8 t104 t105 (a1.S : Sapi_Regs) v165)
noncomputable def rivetlaw06_MachineOps.j4 (a1 : Srivetlaw06_Set) (x56 : Smachine_Machine) (t42 : Int) (v39 : Sapi_Instr) : Option Bool := (nm (wu32 (w64 (4 * (w64 (a1.PC.tmod 16))))) fun y72 => ((x56.Memory).bind fun y82 => (((memory_Memory_Place y82 (w64 (a1.PC.tmod 16)) ([t42] : List Int)).bind fun ⟨t91, t92⟩ => (((machine_Machine_Start (⟨(some t92), x56.s, x56.pc, x56.status, x56.in', x56.out⟩ : Smachine_Machine) y72 a1.S).bind fun t98 => (((machine_Machine_Step t98).bind fun ⟨t104, t105⟩ => ((if v39.Kind < 5 then ((alu_Do a1.S v39).bind fun ⟨t114, t115⟩ => ((if t115 = 0 then rivetlaw06_MachineOps.j5 t104 t115 t105 t114 (wu32 (y72 + 4)) else rivetlaw06_MachineOps.j5 t104 t115 t105 t114 y72))) else ((alu_Taken a1.S v39.Op).bind fun t152 => ((if t152 = true then (nm (wu32 ((wu32 (y72 + 4)) + (wu32 ((wu32 v39.Imm) * 4)))) fun y158 => (if v39.Kind = 6 then (if 0 ≤ v39.C ∧ v39.C < ((16 : Nat) : Int) then (nm (vx 0 a1.S.R (v39.C : Int).toNat) fun y163 => rivetlaw06_MachineOps.j7 v39 t104 t105 a1 y72 y163) else none) else rivetlaw06_MachineOps.j7 v39 t104 t105 a1 y72 y158)) else rivetlaw06_MachineOps.j8 t104 t105 (a1.S : Sapi_Regs) (wu32 (y72 + 4)))))))))))))))
noncomputable def rivetlaw06_MachineOps.j3 (a1 : Srivetlaw06_Set) (x56 : Smachine_Machine) (t42 : Int) (v39 : Sapi_Instr) (v66 : Bool) : Option Bool := (if v66 = true then some false else rivetlaw06_MachineOps.j4 a1 x56 t42 v39)
noncomputable def rivetlaw06_MachineOps.j1 (t12 : Bool) (a1 : Srivetlaw06_Set) (v39 : Sapi_Instr) : Option Bool := ((isa_Encode v39).bind fun ⟨t42, t43⟩ => (((machine_New 16 ([] : List Int)).bind fun ⟨t49, t50⟩ => ((match t49 with | none => (if t12 = true then rivetlaw06_MachineOps.j2 else rivetlaw06_MachineOps.j2) | some x56 => (if t12 = true then (if t43 = 0 then rivetlaw06_MachineOps.j3 a1 x56 t42 v39 (t50 != 0) else rivetlaw06_MachineOps.j3 a1 x56 t42 v39 true) else rivetlaw06_MachineOps.j3 a1 x56 t42 v39 true))))))
noncomputable def rivetlaw06_MachineOps (a0 : Sapi_Instr) (a1 : Srivetlaw06_Set) : Option Bool := ((rivetlaw06_shown).bind fun t12 => (((rivetref03_Fit a0).bind fun t18 => ((if ((t18 : Sapi_Instr).Kind) = 5 then ((rivetref03_Fit (⟨6, a0.Op, 0, 0, 0, a0.Imm, a0.U⟩ : Sapi_Instr)).bind fun t32 => (rivetlaw06_MachineOps.j1 t12 a1 (t32 : Sapi_Instr))) else rivetlaw06_MachineOps.j1 t12 a1 (t18 : Sapi_Instr))))))
set_option maxRecDepth 100000 in
set_option maxHeartbeats 4000000 in
theorem rivetlaw06_MachineOps.calls (a0 : Sapi_Instr) (a1 : Srivetlaw06_Set) (A1_1 : Option Addr) (c1_1 : Nat) (r : Bool) (w0 : World) (hr1_1 : Rd w0 (eI .u32) A1_1 c1_1 a1.In) (H : rivetlaw06_MachineOps a0 a1 = some r) :
    Calls Try.prog 4 #[.agg (eSapi_Instr.enc a0).toArray, .agg #[.int .u32 (vx 0 a1.S.R 0), .int .u32 (vx 0 a1.S.R 1), .int .u32 (vx 0 a1.S.R 2), .int .u32 (vx 0 a1.S.R 3), .int .u32 (vx 0 a1.S.R 4), .int .u32 (vx 0 a1.S.R 5), .int .u32 (vx 0 a1.S.R 6), .int .u32 (vx 0 a1.S.R 7), .int .u32 (vx 0 a1.S.R 8), .int .u32 (vx 0 a1.S.R 9), .int .u32 (vx 0 a1.S.R 10), .int .u32 (vx 0 a1.S.R 11), .int .u32 (vx 0 a1.S.R 12), .int .u32 (vx 0 a1.S.R 13), .int .u32 (vx 0 a1.S.R 14), .int .u32 (vx 0 a1.S.R 15), .int .u32 a1.S.H, .bool a1.S.N, .bool a1.S.Z, .bool a1.S.C, .bool a1.S.V, .int .u32 a1.PC, .slice A1_1 a1.In.length c1_1]] w0 fun e w' => e = .returned (.bool r) ∧ St [] w0 w' [] := by
 have hw : St [] w0 w0 [] := St.nil w0
 unfold rivetlaw06_MachineOps at H
 refine go_fn Try.func4 rfl Try.ntmps4 ?_; intro a hs
 refine go_sk fun K1 hK1 => ?_
 obtain ⟨ad2, wd3, hx4, hw⟩ := x_box1 (P := Try.prog) (elem := 45) (v := (Operand.tmp 0)) (ty := 0) hs hw eSapi_Instr a0 (by kernel_rfl)
 refine go_run hs (by rfl) hx4 [0] ?_; clear hs; intro a hs
 obtain ⟨g6, wd7, hx8, hw⟩ := x_boxc (P := Try.prog) (elem := 28) (v := (Operand.tmp 1)) (ty := 0) (cs := eSapi_Regs.enc a1.S ++ [.int .u32 a1.PC, .slice A1_1 a1.In.length c1_1]) hs hw (by kernel_rfl)
 refine go_run hs (by rfl) hx8 [1] ?_; clear hs; intro a hs
 refine go_pvs 3 [] [] hs ?_; clear hs; intro a hs
 refine go_end (hK1 _ _ ?_)
 refine go_sk fun K10 hK10 => ?_
 obtain ⟨t12, hx13, H⟩ := bind_some H
 refine go_call hs (by rfl) (rivetlaw06_shown.calls t12 _ hx13) ?_
 rintro e wd14 ⟨rfl, hw15⟩
 refine ⟨_, rfl, ?_⟩
 replace hw := hw.call hw15
 clear hs; intro a hs
 refine go_pvs 2 [18] [(5, .bool t12)] hs ?_; clear hs; intro a hs
 refine go_end (hK10 _ _ ?_)
 refine go_sk fun K16 hK16 => ?_
 refine go_run hs (by rfl) (x_lds (off := 0) (p := ad2) (cs := (eSapi_Instr.enc a0)) (Rd.of_own (hw.up 1)) (one_ok a0) (one_at _ _)) [] ?_; clear hs; intro a hs
 obtain ⟨t18, hx19, H⟩ := bind_some H
 refine go_call hs (by rfl) (rivetref03_Fit.calls a0 t18 _ hx19) ?_
 rintro e wd20 ⟨rfl, hw21⟩
 refine ⟨_, rfl, ?_⟩
 replace hw := hw.call hw21
 clear hs; intro a hs; replace hs := hs.rms [19]
 obtain ⟨ad22, wd23, hx24, hw⟩ := x_alloc1 (P := Try.prog) (elem := 45) (ty := 0) (z := .agg (eSapi_Instr.enc (⟨0, 0, 0, 0, 0, 0, false⟩ : Sapi_Instr)).toArray) hs hw eSapi_Instr (⟨0, 0, 0, 0, 0, 0, false⟩ : Sapi_Instr) (by kernel_rfl) (by kernel_rfl)
 refine go_run hs (by rfl) hx24 [] ?_; clear hs; intro a hs
 obtain ⟨wd26, hx27, hw⟩ := x_put (P := Try.prog) (ty := 0) (t := 45) (x := (Operand.tmp 6)) (y := (Operand.tmp 20)) (off := 0) (p := ad22) (v := .agg (eSapi_Instr.enc t18).toArray) (vs := (eSapi_Instr.enc t18)) (i := 0) (e' := ((t18 : Sapi_Instr) : Sapi_Instr)) hs hw rfl (one_ok (⟨0, 0, 0, 0, 0, 0, false⟩ : Sapi_Instr)).1 (one_ok (⟨0, 0, 0, 0, 0, 0, false⟩ : Sapi_Instr)).2 (by kernel_rfl) (one_at _ _) (by kernel_rfl) rfl (by kernel_rfl) (Nat.le_of_ble_eq_true rfl) (eSapi_Instr.one _) (by kernel_rfl)
 refine go_unit hs (by rfl) hx27 [20] ?_; clear hs; intro a hs
 replace hw : St [] w0 wd26 [own 45 eSapi_Instr (some ad22) 1 [(t18 : Sapi_Instr)], box g6 28 (eSapi_Regs.enc a1.S ++ [.int .u32 a1.PC, .slice A1_1 a1.In.length c1_1]), own 45 eSapi_Instr (some ad2) 1 [a0]] := hw
 refine go_end (hK16 _ _ ?_)
 refine go_seq_k fun K28 hK28 => ?_
 have hJ1 : ∀ (v39 : Sapi_Instr) (a : Act) (w : World), Slots a 151 [(3, .pointer (some (⟨g6, 0, none⟩ : Addr))), (5, .bool t12), (6, .pointer (some ad22))] → St [] w0 w [own 45 eSapi_Instr (some ad22) 1 [v39], box g6 28 (eSapi_Regs.enc a1.S ++ [.int .u32 a1.PC, .slice A1_1 a1.In.length c1_1]), own 45 eSapi_Instr (some ad2) 1 [a0]] → rivetlaw06_MachineOps.j1 t12 a1 v39 = some r → K28 a w := by
  intro v39 a w hs hw H
  unfold rivetlaw06_MachineOps.j1 at H
  refine hK28 _ _ ?_
  refine go_sk fun K40 hK40 => ?_
  refine go_run hs (by rfl) (x_lds (off := 0) (p := ad22) (cs := (eSapi_Instr.enc v39)) (Rd.of_own (hw.up 0)) (one_ok (t18 : Sapi_Instr)) (one_at _ _)) [] ?_; clear hs; intro a hs
  obtain ⟨⟨t42, t43⟩, hx44, H⟩ := bind_some H
  refine go_call hs (by rfl) (isa_Encode.calls v39 (t42, t43) _ hx44) ?_
  rintro e wd45 ⟨rfl, hw46⟩
  refine ⟨_, rfl, ?_⟩
  replace hw := hw.call hw46
  clear hs; intro a hs; replace hs := hs.rms [33]
  refine go_pvs 7 [34] [(7, .int .u32 t42), (8, .int .i64 t43)] hs ?_; clear hs; intro a hs
  refine go_end (hK40 _ _ ?_)
  refine go_sk fun K47 hK47 => ?_
  obtain ⟨⟨t49, t50⟩, hx51, H⟩ := bind_some H
  refine go_call hs (by rfl) (machine_New.calls 16 none 0 ([] : List Int) (t49, t50) _ (Rd.nil _ _) hx51) ?_
  rintro e wd53 ⟨Aa52, rfl, hw54⟩
  refine ⟨_, rfl, ?_⟩
  replace hw := hw.call hw54
  clear hs; intro a hs
  rcases t49 with _ | x56
  ·obtain ⟨hAg, hwg⟩ := St.oM_none hw
   clear hw; subst hAg; have hw := hwg; clear hwg
   refine go_pvs 6 [38] [(9, .pointer none), (10, .int .i64 t50)] hs ?_; clear hs; intro a hs
   refine go_end (hK47 _ _ ?_)
   refine go_seq_k fun K57 hK57 => ?_
   refine go_seq_k fun K58 hK58 => ?_
   have hJ2 : ∀ (a : Act) (w : World), Slots a 151 [(3, .pointer (some (⟨g6, 0, none⟩ : Addr))), (6, .pointer (some ad22)), (7, .int .u32 t42), (9, .pointer none), (54, .bool true)] → St [] w0 w [own 45 eSapi_Instr (some ad22) 1 [v39], box g6 28 (eSapi_Regs.enc a1.S ++ [.int .u32 a1.PC, .slice A1_1 a1.In.length c1_1]), own 45 eSapi_Instr (some ad2) 1 [a0]] → rivetlaw06_MachineOps.j2 = some r → K58 a w := by
    intro a w hs hw H
    unfold rivetlaw06_MachineOps.j2 at H
    refine hK58 _ _ ?_
    refine go_cond hs true (fun hc => ?_) fun hc => ?_
    ·skip
     refine go_sp [3, 6, 7, 9, 54] [(4, .bool false)] hs ?_; clear hs; intro a hs
     refine wp_ret ?_
     refine th_ret ?_
     obtain rfl := Option.some.inj H
     refine ret1 (t := 4) (v := .bool false) hs (by kernel_rfl) (by kernel_rfl) ?_
     exact ⟨rfl, hw.only 0⟩
    ·cases hc
   refine go_region ?_
   refine go_pvs 3 [5] [(43, .bool (!t12))] hs ?_; clear hs; intro a hs
   cases hb59 : (!t12)
   ·replace H := ite_t H (nf hb59)
    rw [hb59] at hs
    refine go_pvs 14 [8, 10, 43] [(54, .bool true)] hs ?_; clear hs; intro a hs
    refine go_end ?_
    replace hw := hw.up 2
    replace hw := hw.up 2
    replace hw := hw.up 2
    exact hJ2 _ _ hs.kx hw H
   ·replace H := ite_f H (ff (nt hb59))
    rw [hb59] at hs
    refine go_pvs 14 [8, 10, 43] [(54, .bool true)] hs ?_; clear hs; intro a hs
    refine go_end ?_
    replace hw := hw.up 2
    replace hw := hw.up 2
    replace hw := hw.up 2
    exact hJ2 _ _ hs.kx hw H
  ·replace hw : St [] w0 _ [mSmachine_Machine Aa52 x56, own 45 eSapi_Instr (some ad22) 1 [v39], box g6 28 (eSapi_Regs.enc a1.S ++ [.int .u32 a1.PC, .slice A1_1 a1.In.length c1_1]), own 45 eSapi_Instr (some ad2) 1 [a0]] := hw
   obtain ⟨g61, hAg, hwg⟩ := mSmachine_Machine.addr hw
   clear hw; subst hAg; have hw := hwg; clear hwg
   replace hw : St [] w0 _ [mSmachine_Machine (some ⟨g61, 0, none⟩) x56, own 45 eSapi_Instr (some ad22) 1 [v39], box g6 28 (eSapi_Regs.enc a1.S ++ [.int .u32 a1.PC, .slice A1_1 a1.In.length c1_1]), own 45 eSapi_Instr (some ad2) 1 [a0]] := hw
   refine go_pvs 6 [38] [(9, .pointer (some (⟨g61, 0, none⟩ : Addr))), (10, .int .i64 t50)] hs ?_; clear hs; intro a hs
   refine go_end (hK47 _ _ ?_)
   refine go_seq_k fun K62 hK62 => ?_
   have hJ4 : ∀ (a : Act) (w : World), Slots a 151 [(3, .pointer (some (⟨g6, 0, none⟩ : Addr))), (6, .pointer (some ad22)), (7, .int .u32 t42), (9, .pointer (some (⟨g61, 0, none⟩ : Addr)))] → St [] w0 w [mSmachine_Machine (some ⟨g61, 0, none⟩) x56, own 45 eSapi_Instr (some ad22) 1 [v39], box g6 28 (eSapi_Regs.enc a1.S ++ [.int .u32 a1.PC, .slice A1_1 a1.In.length c1_1]), own 45 eSapi_Instr (some ad2) 1 [a0]] → rivetlaw06_MachineOps.j4 a1 x56 t42 v39 = some r → K62 a w := by
    intro a w hs hw H
    unfold rivetlaw06_MachineOps.j4 at H
    refine hK62 _ _ ?_
    refine go_sk fun K70 hK70 => ?_
    refine go_pvs 1 [] [(55, .pointer (some (⟨g6, 21, none⟩ : Addr)))] hs ?_; clear hs; intro a hs
    refine go_run hs (by rfl) (x_bld (g := g6) (o := 21) (p := (⟨g6, 21, none⟩ : Addr)) (v := .int .u32 a1.PC) (hw.up 2)) [55] ?_; clear hs; intro a hs
    refine go_pvs 5 [56] [(11, .int .i64 (w64 (a1.PC.tmod 16)))] hs ?_; clear hs; intro a hs
    refine go_end (hK70 _ _ ?_)
    refine go_sp [] [(12, .int .u32 (wu32 (w64 (4 * (w64 (a1.PC.tmod 16))))))] hs ?_; clear hs; intro a hs
    obtain ⟨y72, hy72, H⟩ := nm_some H
    replace hs : Slots a 151 [(3, .pointer (some (⟨g6, 0, none⟩ : Addr))), (6, .pointer (some ad22)), (7, .int .u32 t42), (9, .pointer (some (⟨g61, 0, none⟩ : Addr))), (11, .int .i64 (w64 (a1.PC.tmod 16))), (12, .int .u32 y72)] := by rw [hy72]; exact hs.kx
    refine go_sk fun K73 hK73 => ?_
    refine go_pvs 3 [] [(64, .pointer (some (⟨g61, 0, none⟩ : Addr)))] hs ?_; clear hs; intro a hs
    obtain ⟨Aa74, Aa76, cc77, Aa79, cc80, hw⟩ := mSmachine_Machine.open1 hw
    replace hw : St [] w0 _ [box g61 40 ([.pointer Aa74] ++ eSapi_Regs.enc x56.s ++ [.int .u32 x56.pc, .int .i64 x56.status, .slice Aa76 x56.in'.length cc77, .slice Aa79 x56.out.length cc80]), oM mSmemory_Memory Aa74 x56.Memory, rdo (eI .u32) Aa76 cc77 x56.in', own 23 (eI .u32) Aa79 cc80 x56.out, own 45 eSapi_Instr (some ad22) 1 [v39], box g6 28 (eSapi_Regs.enc a1.S ++ [.int .u32 a1.PC, .slice A1_1 a1.In.length c1_1]), own 45 eSapi_Instr (some ad2) 1 [a0]] := hw
    replace hw := hw.up 1
    obtain ⟨y82, hy83, H⟩ := bind_some H
    replace hw := St.oM_some hw hy83
    obtain ⟨g84, hAg, hwg⟩ := St.one hw
    clear hw; subst hAg; have hw := hwg; clear hwg
    replace hw : St [] w0 _ [own 75 eSmemory_Memory (some (⟨g84, 0, none⟩ : Addr)) 1 [y82], box g61 40 ([.pointer (some (⟨g84, 0, none⟩ : Addr))] ++ eSapi_Regs.enc x56.s ++ [.int .u32 x56.pc, .int .i64 x56.status, .slice Aa76 x56.in'.length cc77, .slice Aa79 x56.out.length cc80]), rdo (eI .u32) Aa76 cc77 x56.in', own 23 (eI .u32) Aa79 cc80 x56.out, own 45 eSapi_Instr (some ad22) 1 [v39], box g6 28 (eSapi_Regs.enc a1.S ++ [.int .u32 a1.PC, .slice A1_1 a1.In.length c1_1]), own 45 eSapi_Instr (some ad2) 1 [a0]] := hw
    refine go_run hs (by rfl) (x_bld (g := g61) (o := 0) (p := (⟨g61, 0, none⟩ : Addr)) (v := .pointer (some (⟨g84, 0, none⟩ : Addr))) (hw.up 1)) [64] ?_; clear hs; intro a hs
    refine go_pvs 6 [7, 11] [(66, .int .i64 (w64 (a1.PC.tmod 16))), (67, .int .u32 t42)] hs ?_; clear hs; intro a hs
    obtain ⟨Aa85, cc86, wd87, hx88, hw⟩ := n_lit (P := Try.prog) (t := 22) (ty := 22) (T := 23) (len := 1) (parts := #[(0, (Operand.tmp 67))]) (z := .int .u32 0) (bytes := 4) (cells := #[.int .u32 t42]) hs hw (eI .u32) ([t42] : List Int) (by kernel_rfl) (by kernel_rfl) (by kernel_rfl) (by kernel_rfl) (by kernel_rfl) (by kernel_rfl) (by kernel_rfl)
    refine go_run hs (by rfl) hx88 [67] ?_; clear hs; intro a hs
    replace hw := hw.up 1
    obtain ⟨ks90, hgks90, hstks90, hbkks90⟩ := hw.lend 1
    obtain ⟨⟨t91, t92⟩, hx93, H⟩ := bind_some H
    refine go_call hs (by rfl) (memory_Memory_Place.calls ks90 (some (⟨g84, 0, none⟩ : Addr)) y82 (w64 (a1.PC.tmod 16)) Aa85 cc86 ([t42] : List Int) (t91, t92) _ hgks90 (fun wz hkz => (Rd.of_own ((hstks90 _ hkz).up 0))) hx93) ?_
    rintro e wd94 ⟨rfl, hw95⟩
    refine ⟨_, rfl, ?_⟩
    replace hw := hbkks90 _ _ hw95
    replace hw : St [] w0 _ [own 75 eSmemory_Memory (some (⟨g84, 0, none⟩ : Addr)) 1 [t92], own 23 (eI .u32) Aa85 cc86 ([t42] : List Int), box g61 40 ([.pointer (some (⟨g84, 0, none⟩ : Addr))] ++ eSapi_Regs.enc x56.s ++ [.int .u32 x56.pc, .int .i64 x56.status, .slice Aa76 x56.in'.length cc77, .slice Aa79 x56.out.length cc80]), rdo (eI .u32) Aa76 cc77 x56.in', own 23 (eI .u32) Aa79 cc80 x56.out, own 45 eSapi_Instr (some ad22) 1 [v39], box g6 28 (eSapi_Regs.enc a1.S ++ [.int .u32 a1.PC, .slice A1_1 a1.In.length c1_1]), own 45 eSapi_Instr (some ad2) 1 [a0]] := hw
    clear hs; intro a hs; replace hs := hs.rms [65, 66, 68, 69]
    refine go_end (hK73 _ _ ?_)
    refine go_sk fun K96 hK96 => ?_
    refine go_pvs 3 [] [(70, .pointer (some (⟨g61, 0, none⟩ : Addr))), (71, .int .u32 y72), (72, .pointer (some (⟨g6, 0, none⟩ : Addr)))] hs ?_; clear hs; intro a hs
    refine go_run hs (by rfl) (x_blds (g := g6) (o := 0) (p := (⟨g6, 0, none⟩ : Addr)) (vs := (eSapi_Regs.enc a1.S)) (hw.up 6)) [72] ?_; clear hs; intro a hs
    replace hw := St.oM_of (m := mSmemory_Memory) (A := (some (⟨g84, 0, none⟩ : Addr))) (x := t92) hw
    replace hw := hw.up 4
    replace hw := hw.up 4
    replace hw := hw.up 2
    replace hw := hw.up 4
    replace hw := mSmachine_Machine.close (x := (⟨(some t92), x56.s, x56.pc, x56.status, x56.in', x56.out⟩ : Smachine_Machine)) hw
    obtain ⟨ks97, hgks97, hstks97, hbkks97⟩ := hw.lend 1
    obtain ⟨t98, hx99, H⟩ := bind_some H
    refine go_call hs (by rfl) (machine_Machine_Start.calls ks97 (some ⟨g61, 0, none⟩) (⟨(some t92), x56.s, x56.pc, x56.status, x56.in', x56.out⟩ : Smachine_Machine) y72 a1.S t98 _ hgks97 hx99) ?_
    rintro e wd100 ⟨rfl, hw101⟩
    refine ⟨_, rfl, ?_⟩
    replace hw := hbkks97 _ _ hw101
    replace hw : St [] w0 wd100 [mSmachine_Machine (some ⟨g61, 0, none⟩) t98, own 23 (eI .u32) Aa85 cc86 ([t42] : List Int), own 45 eSapi_Instr (some ad22) 1 [v39], box g6 28 (eSapi_Regs.enc a1.S ++ [.int .u32 a1.PC, .slice A1_1 a1.In.length c1_1]), own 45 eSapi_Instr (some ad2) 1 [a0]] := hw
    clear hs; intro a hs; replace hs := hs.rms [70, 71, 73, 74]
    refine go_end (hK96 _ _ ?_)
    refine go_sk fun K102 hK102 => ?_
    refine go_pvs 1 [] [(75, .pointer (some (⟨g61, 0, none⟩ : Addr)))] hs ?_; clear hs; intro a hs
    obtain ⟨ks103, hgks103, hstks103, hbkks103⟩ := hw.lend 1
    obtain ⟨⟨t104, t105⟩, hx106, H⟩ := bind_some H
    refine go_call hs (by rfl) (machine_Machine_Step.calls ks103 (some ⟨g61, 0, none⟩) t98 (t104, t105) _ hgks103 hx106) ?_
    rintro e wd107 ⟨rfl, hw108⟩
    refine ⟨_, rfl, ?_⟩
    replace hw := hbkks103 _ _ hw108
    replace hw : St [] w0 wd107 [mSmachine_Machine (some ⟨g61, 0, none⟩) t105, own 23 (eI .u32) Aa85 cc86 ([t42] : List Int), own 45 eSapi_Instr (some ad22) 1 [v39], box g6 28 (eSapi_Regs.enc a1.S ++ [.int .u32 a1.PC, .slice A1_1 a1.In.length c1_1]), own 45 eSapi_Instr (some ad2) 1 [a0]] := hw
    clear hs; intro a hs; replace hs := hs.rms [75]
    refine go_pvs 3 [76] [(13, .int .i64 t104)] hs ?_; clear hs; intro a hs
    refine go_end (hK102 _ _ ?_)
    refine go_seq_k fun K109 hK109 => ?_
    refine go_sk fun K110 hK110 => ?_
    refine go_pvs 1 [] [(77, .pointer (some ((ad22 : Addr).add 0)))] hs ?_; clear hs; intro a hs
    refine go_run hs (by rfl) (x_ld (off := 0) (p := (ad22 : Addr).add 0) (v := .int .i64 v39.Kind) (Rd.of_own (hw.up 2)) (one_ok (t18 : Sapi_Instr)) (one_off _ _ _)) [77] ?_; clear hs; intro a hs
    refine go_pvs 3 [78] [(79, .bool (decide (v39.Kind < 5)))] hs ?_; clear hs; intro a hs
    refine go_end (hK110 _ _ ?_)
    refine go_cond hs (decide (v39.Kind < 5)) (fun hc => ?_) fun hc => ?_
    ·replace H := ite_t H (of_decide_eq_true hc)
     have hb111 := hc
     rw [hb111] at hs
     refine go_sk fun K112 hK112 => ?_
     refine go_pvs 1 [3, 79] [(81, .pointer (some (⟨g6, 0, none⟩ : Addr)))] hs ?_; clear hs; intro a hs
     refine go_run hs (by rfl) (x_blds (g := g6) (o := 0) (p := (⟨g6, 0, none⟩ : Addr)) (vs := (eSapi_Regs.enc a1.S)) (hw.up 3)) [81] ?_; clear hs; intro a hs
     refine go_run hs (by rfl) (x_lds (off := 0) (p := ad22) (cs := (eSapi_Instr.enc v39)) (Rd.of_own (hw.up 2)) (one_ok (t18 : Sapi_Instr)) (one_at _ _)) [6] ?_; clear hs; intro a hs
     obtain ⟨⟨t114, t115⟩, hx116, H⟩ := bind_some H
     refine go_call hs (by rfl) (alu_Do.calls a1.S v39 (t114, t115) _ hx116) ?_
     rintro e wd117 ⟨rfl, hw118⟩
     refine ⟨_, rfl, ?_⟩
     replace hw := hw.call hw118
     clear hs; intro a hs; replace hs := hs.rms [82, 83]
     refine go_pvs 7 [84] [(85, .agg (eSapi_Regs.enc t114).toArray), (86, .int .i64 t115)] hs ?_; clear hs; intro a hs
     obtain ⟨ad119, wd120, hx121, hw⟩ := x_alloc1 (P := Try.prog) (elem := 26) (ty := 0) (z := .agg (eSapi_Regs.enc (⟨(Vector.replicate 16 0), 0, false, false, false, false⟩ : Sapi_Regs)).toArray) hs hw eSapi_Regs (⟨(Vector.replicate 16 0), 0, false, false, false, false⟩ : Sapi_Regs) (by kernel_rfl) (by kernel_rfl)
     refine go_run hs (by rfl) hx121 [] ?_; clear hs; intro a hs
     obtain ⟨wd123, hx124, hw⟩ := x_put (P := Try.prog) (ty := 0) (t := 26) (x := (Operand.tmp 14)) (y := (Operand.tmp 85)) (off := 0) (p := ad119) (v := .agg (eSapi_Regs.enc t114).toArray) (vs := (eSapi_Regs.enc t114)) (i := 0) (e' := ((t114 : Sapi_Regs) : Sapi_Regs)) hs hw rfl (one_ok (⟨(Vector.replicate 16 0), 0, false, false, false, false⟩ : Sapi_Regs)).1 (one_ok (⟨(Vector.replicate 16 0), 0, false, false, false, false⟩ : Sapi_Regs)).2 (by kernel_rfl) (one_at _ _) (by kernel_rfl) rfl (by kernel_rfl) (Nat.le_of_ble_eq_true rfl) (eSapi_Regs.one _) (by kernel_rfl)
     refine go_unit hs (by rfl) hx124 [85] ?_; clear hs; intro a hs
     replace hw : St [] w0 wd123 [own 26 eSapi_Regs (some ad119) 1 [(t114 : Sapi_Regs)], mSmachine_Machine (some ⟨g61, 0, none⟩) t105, own 23 (eI .u32) Aa85 cc86 ([t42] : List Int), own 45 eSapi_Instr (some ad22) 1 [v39], box g6 28 (eSapi_Regs.enc a1.S ++ [.int .u32 a1.PC, .slice A1_1 a1.In.length c1_1]), own 45 eSapi_Instr (some ad2) 1 [a0]] := hw
     refine go_pvs 10 [86] [(15, .int .i64 t115)] hs ?_; clear hs; intro a hs
     refine go_end (hK112 _ _ ?_)
     refine go_seq_k fun K125 hK125 => ?_
     have hJ5 : ∀ (v129 : Int) (a : Act) (w : World), Slots a 151 [(9, .pointer (some (⟨g61, 0, none⟩ : Addr))), (12, .int .u32 v129), (13, .int .i64 t104), (14, .pointer (some ad119)), (15, .int .i64 t115)] → St [] w0 w [own 26 eSapi_Regs (some ad119) 1 [(t114 : Sapi_Regs)], mSmachine_Machine (some ⟨g61, 0, none⟩) t105, own 23 (eI .u32) Aa85 cc86 ([t42] : List Int), own 45 eSapi_Instr (some ad22) 1 [v39], box g6 28 (eSapi_Regs.enc a1.S ++ [.int .u32 a1.PC, .slice A1_1 a1.In.length c1_1]), own 45 eSapi_Instr (some ad2) 1 [a0]] → rivetlaw06_MachineOps.j5 t104 t115 t105 t114 v129 = some r → K125 a w := by
      intro v129 a w hs hw H
      unfold rivetlaw06_MachineOps.j5 at H
      refine hK125 _ _ ?_
      refine go_seq_k fun K130 hK130 => ?_
      have hJ6 : ∀ (v139 : Bool) (a : Act) (w : World), Slots a 151 [(4, .bool v139)] → St [] w0 w [own 26 eSapi_Regs (some ad119) 1 [(t114 : Sapi_Regs)], mSmachine_Machine (some ⟨g61, 0, none⟩) t105, own 23 (eI .u32) Aa85 cc86 ([t42] : List Int), own 45 eSapi_Instr (some ad22) 1 [v39], box g6 28 (eSapi_Regs.enc a1.S ++ [.int .u32 a1.PC, .slice A1_1 a1.In.length c1_1]), own 45 eSapi_Instr (some ad2) 1 [a0]] → rivetlaw06_MachineOps.j6 v139 = some r → K130 a w := by
       intro v139 a w hs hw H
       unfold rivetlaw06_MachineOps.j6 at H
       refine hK130 _ _ ?_
       refine wp_ret ?_
       refine th_ret ?_
       obtain rfl := Option.some.inj H
       refine ret1 (t := 4) (v := .bool v139) hs (by kernel_rfl) (by kernel_rfl) ?_
       exact ⟨rfl, hw.only 0⟩
      refine q2_region (by kernel_rfl) (by kernel_rfl) ?_
      refine q_pvs 4 [13, 15] [(94, .bool (t104 == t115))] hs ?_; clear hs; intro a hs
      cases hb131 : (t104 == t115)
      ·replace H := ite_f H (beq_eq_false_iff_ne.1 hb131)
       rw [hb131] at hs
       refine q_pvs 16 [9, 12, 14, 94] [(4, .bool false)] hs ?_; clear hs; intro a hs
       refine q_end ?_
       intro wq hbq
       replace hw := hw.behind hbq
       replace hw := hw.up 5
       replace hw := hw.up 5
       replace hw := hw.up 5
       replace hw := hw.up 5
       replace hw := hw.up 5
       replace hw := hw.up 5
       exact hJ6 false _ _ hs.kx hw H
      ·replace H := ite_t H (beq_iff_eq.1 hb131)
       rw [hb131] at hs
       refine q_pvs 5 [] [(95, .pointer (some (⟨g61, 0, none⟩ : Addr)))] hs ?_; clear hs; intro a hs
       obtain ⟨t133, hx134, H⟩ := bind_some H
       refine q_call hs (by rfl) (fun wx hbx => (machine_Machine_Regs.calls (some ⟨g61, 0, none⟩) t105 t133 _ ((rSmachine_Machine.of_m (hw.up 1)).below hbx) hx134).mono fun e wy h => ⟨h.1, below_st hbx h.2⟩) [95] ?_; clear hs; intro a hs
       refine q_run hs (by rfl) (fun wx hbx => (x_lds (off := 0) (p := ad119) (cs := (eSapi_Regs.enc (t114 : Sapi_Regs))) ((Rd.of_own (hw.up 0)).below hbx) (one_ok (t114 : Sapi_Regs)) (one_at _ _))) [14] ?_; clear hs; intro a hs
       refine q_run hs (by rfl) (fun wx hbx => (x_eql (xs := (eSapi_Regs.enc t133).toArray) (ys := (eSapi_Regs.enc (t114 : Sapi_Regs)).toArray) (r := ((decide (t133.R = ((t114 : Sapi_Regs).R))) && ((t133.H == ((t114 : Sapi_Regs).H)) && ((t133.N == ((t114 : Sapi_Regs).N)) && ((t133.Z == ((t114 : Sapi_Regs).Z)) && ((t133.C == ((t114 : Sapi_Regs).C)) && ((t133.V == ((t114 : Sapi_Regs).V)) && true))))))) (by kernel_rfl) (by kernel_rfl) (by kernel_rfl) (eq_struct Try.underlying26 (by kernel_rfl) (eq_cons (a := .agg (eA24.enc t133.R).toArray) (b := .agg (eA24.enc ((t114 : Sapi_Regs).R)).toArray) (r := (decide (t133.R = ((t114 : Sapi_Regs).R)))) (s := ((t133.H == ((t114 : Sapi_Regs).H)) && ((t133.N == ((t114 : Sapi_Regs).N)) && ((t133.Z == ((t114 : Sapi_Regs).Z)) && ((t133.C == ((t114 : Sapi_Regs).C)) && ((t133.V == ((t114 : Sapi_Regs).V)) && true)))))) (by kernel_rfl) (part_pv (by kernel_rfl)) (part_pv (by kernel_rfl)) (eq_vec (e := 23) (k' := .u32) (k := .u32) t133.R ((t114 : Sapi_Regs).R) (by kernel_rfl) (by kernel_rfl) (by kernel_rfl) (by kernel_rfl) (by kernel_rfl)) (eq_cons (a := .int .u32 t133.H) (b := .int .u32 ((t114 : Sapi_Regs).H)) (r := (t133.H == ((t114 : Sapi_Regs).H))) (s := ((t133.N == ((t114 : Sapi_Regs).N)) && ((t133.Z == ((t114 : Sapi_Regs).Z)) && ((t133.C == ((t114 : Sapi_Regs).C)) && ((t133.V == ((t114 : Sapi_Regs).V)) && true))))) (by kernel_rfl) (part_pv (by kernel_rfl)) (part_pv (by kernel_rfl)) (eq_pv (by kernel_rfl)) (eq_cons (a := .bool t133.N) (b := .bool ((t114 : Sapi_Regs).N)) (r := (t133.N == ((t114 : Sapi_Regs).N))) (s := ((t133.Z == ((t114 : Sapi_Regs).Z)) && ((t133.C == ((t114 : Sapi_Regs).C)) && ((t133.V == ((t114 : Sapi_Regs).V)) && true)))) (by kernel_rfl) (part_pv (by kernel_rfl)) (part_pv (by kernel_rfl)) (eq_pv (by kernel_rfl)) (eq_cons (a := .bool t133.Z) (b := .bool ((t114 : Sapi_Regs).Z)) (r := (t133.Z == ((t114 : Sapi_Regs).Z))) (s := ((t133.C == ((t114 : Sapi_Regs).C)) && ((t133.V == ((t114 : Sapi_Regs).V)) && true))) (by kernel_rfl) (part_pv (by kernel_rfl)) (part_pv (by kernel_rfl)) (eq_pv (by kernel_rfl)) (eq_cons (a := .bool t133.C) (b := .bool ((t114 : Sapi_Regs).C)) (r := (t133.C == ((t114 : Sapi_Regs).C))) (s := ((t133.V == ((t114 : Sapi_Regs).V)) && true)) (by kernel_rfl) (part_pv (by kernel_rfl)) (part_pv (by kernel_rfl)) (eq_pv (by kernel_rfl)) (eq_cons (a := .bool t133.V) (b := .bool ((t114 : Sapi_Regs).V)) (r := (t133.V == ((t114 : Sapi_Regs).V))) (s := true) (by kernel_rfl) (part_pv (by kernel_rfl)) (part_pv (by kernel_rfl)) (eq_pv (by kernel_rfl)) eq_nil))))))))) [96, 97] ?_; clear hs; intro a hs
       refine q_pvs 10 [94, 98] [(100, .bool ((decide (t133.R = ((t114 : Sapi_Regs).R))) && ((t133.H == ((t114 : Sapi_Regs).H)) && ((t133.N == ((t114 : Sapi_Regs).N)) && ((t133.Z == ((t114 : Sapi_Regs).Z)) && ((t133.C == ((t114 : Sapi_Regs).C)) && ((t133.V == ((t114 : Sapi_Regs).V)) && true)))))))] hs ?_; clear hs; intro a hs
       cases hb135 : ((decide (t133.R = ((t114 : Sapi_Regs).R))) && ((t133.H == ((t114 : Sapi_Regs).H)) && ((t133.N == ((t114 : Sapi_Regs).N)) && ((t133.Z == ((t114 : Sapi_Regs).Z)) && ((t133.C == ((t114 : Sapi_Regs).C)) && ((t133.V == ((t114 : Sapi_Regs).V)) && true))))))
       ·replace H := ite_f H (ff hb135)
        rw [hb135] at hs
        refine q_pvs 16 [9, 12, 100] [(4, .bool false)] hs ?_; clear hs; intro a hs
        refine q_end ?_
        intro wq hbq
        replace hw := hw.behind hbq
        replace hw := hw.up 5
        replace hw := hw.up 5
        replace hw := hw.up 5
        replace hw := hw.up 5
        replace hw := hw.up 5
        replace hw := hw.up 5
        exact hJ6 false _ _ hs.kx hw H
       ·replace H := ite_t H hb135
        rw [hb135] at hs
        refine q_pvs 11 [9] [(101, .pointer (some (⟨g61, 0, none⟩ : Addr)))] hs ?_; clear hs; intro a hs
        obtain ⟨t137, hx138, H⟩ := bind_some H
        refine q_call hs (by rfl) (fun wx hbx => (machine_Machine_PC.calls (some ⟨g61, 0, none⟩) t105 t137 _ ((rSmachine_Machine.of_m (hw.up 1)).below hbx) hx138).mono fun e wy h => ⟨h.1, below_st hbx h.2⟩) [101] ?_; clear hs; intro a hs
        refine q_pvs 16 [12, 100, 102] [(4, .bool (t137 == v129))] hs ?_; clear hs; intro a hs
        refine q_end ?_
        intro wq hbq
        replace hw := hw.behind hbq
        replace hw := hw.up 5
        replace hw := hw.up 5
        replace hw := hw.up 5
        replace hw := hw.up 5
        replace hw := hw.up 5
        replace hw := hw.up 5
        exact hJ6 (t137 == v129) _ _ hs.kx hw H
     refine go_sp [] [(88, .bool (t115 == 0))] hs ?_; clear hs; intro a hs
     refine go_cond hs (t115 == 0) (fun hc => ?_) fun hc => ?_
     ·replace H := ite_t H (beq_iff_eq.1 hc)
      have hb127 := hc
      rw [hb127] at hs
      refine go_plain [88] [(12, .int .u32 (wu32 (y72 + 4)))] hs ?_; clear hs; intro a hs
      replace hw := hw.up 5
      replace hw := hw.up 5
      replace hw := hw.up 5
      replace hw := hw.up 5
      replace hw := hw.up 5
      replace hw := hw.up 5
      exact hJ5 (wu32 (y72 + 4)) _ _ hs.kx hw H
     ·replace H := ite_f H (beq_eq_false_iff_ne.1 hc)
      have hb128 := hc
      rw [hb128] at hs
      refine wp_skip ?_
      replace hw := hw.up 5
      replace hw := hw.up 5
      replace hw := hw.up 5
      replace hw := hw.up 5
      replace hw := hw.up 5
      replace hw := hw.up 5
      exact hJ5 y72 _ _ hs.kx hw H
    ·replace H := ite_f H (of_decide_eq_false hc)
     have hb140 := hc
     rw [hb140] at hs
     refine wp_skip ?_
     refine hK109 _ _ ?_
     refine go_sk fun K141 hK141 => ?_
     refine go_pvs 1 [79] [(106, .pointer (some (⟨g6, 0, none⟩ : Addr)))] hs ?_; clear hs; intro a hs
     refine go_run hs (by rfl) (x_blds (g := g6) (o := 0) (p := (⟨g6, 0, none⟩ : Addr)) (vs := (eSapi_Regs.enc a1.S)) (hw.up 3)) [106] ?_; clear hs; intro a hs
     obtain ⟨ad142, wd143, hx144, hw⟩ := x_alloc1 (P := Try.prog) (elem := 26) (ty := 0) (z := .agg (eSapi_Regs.enc (⟨(Vector.replicate 16 0), 0, false, false, false, false⟩ : Sapi_Regs)).toArray) hs hw eSapi_Regs (⟨(Vector.replicate 16 0), 0, false, false, false, false⟩ : Sapi_Regs) (by kernel_rfl) (by kernel_rfl)
     refine go_run hs (by rfl) hx144 [] ?_; clear hs; intro a hs
     obtain ⟨wd146, hx147, hw⟩ := x_put (P := Try.prog) (ty := 0) (t := 26) (x := (Operand.tmp 16)) (y := (Operand.tmp 107)) (off := 0) (p := ad142) (v := .agg (eSapi_Regs.enc a1.S).toArray) (vs := (eSapi_Regs.enc a1.S)) (i := 0) (e' := ((a1.S : Sapi_Regs) : Sapi_Regs)) hs hw rfl (one_ok (⟨(Vector.replicate 16 0), 0, false, false, false, false⟩ : Sapi_Regs)).1 (one_ok (⟨(Vector.replicate 16 0), 0, false, false, false, false⟩ : Sapi_Regs)).2 (by kernel_rfl) (one_at _ _) (by kernel_rfl) rfl (by kernel_rfl) (Nat.le_of_ble_eq_true rfl) (eSapi_Regs.one _) (by kernel_rfl)
     refine go_unit hs (by rfl) hx147 [107] ?_; clear hs; intro a hs
     replace hw : St [] w0 wd146 [own 26 eSapi_Regs (some ad142) 1 [(a1.S : Sapi_Regs)], mSmachine_Machine (some ⟨g61, 0, none⟩) t105, own 23 (eI .u32) Aa85 cc86 ([t42] : List Int), own 45 eSapi_Instr (some ad22) 1 [v39], box g6 28 (eSapi_Regs.enc a1.S ++ [.int .u32 a1.PC, .slice A1_1 a1.In.length c1_1]), own 45 eSapi_Instr (some ad2) 1 [a0]] := hw
     refine go_end (hK141 _ _ ?_)
     refine go_sp [] [(17, .int .u32 (wu32 (y72 + 4)))] hs ?_; clear hs; intro a hs
     refine go_seq_k fun K149 hK149 => ?_
     have hJ8 : ∀ (v172 : Sapi_Regs) (v173 : Int) (a : Act) (w : World), Slots a 151 [(9, .pointer (some (⟨g61, 0, none⟩ : Addr))), (13, .int .i64 t104), (16, .pointer (some ad142)), (17, .int .u32 v173)] → St [] w0 w [own 26 eSapi_Regs (some ad142) 1 [v172], mSmachine_Machine (some ⟨g61, 0, none⟩) t105, own 23 (eI .u32) Aa85 cc86 ([t42] : List Int), own 45 eSapi_Instr (some ad22) 1 [v39], box g6 28 (eSapi_Regs.enc a1.S ++ [.int .u32 a1.PC, .slice A1_1 a1.In.length c1_1]), own 45 eSapi_Instr (some ad2) 1 [a0]] → rivetlaw06_MachineOps.j8 t104 t105 v172 v173 = some r → K149 a w := by
      intro v172 v173 a w hs hw H
      unfold rivetlaw06_MachineOps.j8 at H
      refine hK149 _ _ ?_
      refine go_seq_k fun K174 hK174 => ?_
      have hJ9 : ∀ (v183 : Bool) (a : Act) (w : World), Slots a 151 [(4, .bool v183)] → St [] w0 w [own 26 eSapi_Regs (some ad142) 1 [v172], mSmachine_Machine (some ⟨g61, 0, none⟩) t105, own 23 (eI .u32) Aa85 cc86 ([t42] : List Int), own 45 eSapi_Instr (some ad22) 1 [v39], box g6 28 (eSapi_Regs.enc a1.S ++ [.int .u32 a1.PC, .slice A1_1 a1.In.length c1_1]), own 45 eSapi_Instr (some ad2) 1 [a0]] → rivetlaw06_MachineOps.j9 v183 = some r → K174 a w := by
       intro v183 a w hs hw H
       unfold rivetlaw06_MachineOps.j9 at H
       refine hK174 _ _ ?_
       refine wp_ret ?_
       obtain rfl := Option.some.inj H
       refine ret1 (t := 4) (v := .bool v183) hs (by kernel_rfl) (by kernel_rfl) ?_
       exact ⟨rfl, hw.only 0⟩
      refine q2_region (by kernel_rfl) (by kernel_rfl) ?_
      refine q_pvs 3 [13] [(139, .bool (t104 == 0))] hs ?_; clear hs; intro a hs
      cases hb175 : (t104 == 0)
      ·replace H := ite_f H (beq_eq_false_iff_ne.1 hb175)
       rw [hb175] at hs
       refine q_pvs 15 [9, 16, 17, 139] [(4, .bool false)] hs ?_; clear hs; intro a hs
       refine q_end ?_
       intro wq hbq
       replace hw := hw.behind hbq
       replace hw := hw.up 5
       replace hw := hw.up 5
       replace hw := hw.up 5
       replace hw := hw.up 5
       replace hw := hw.up 5
       replace hw := hw.up 5
       exact hJ9 false _ _ hs.kx hw H
      ·replace H := ite_t H (beq_iff_eq.1 hb175)
       rw [hb175] at hs
       refine q_pvs 4 [] [(140, .pointer (some (⟨g61, 0, none⟩ : Addr)))] hs ?_; clear hs; intro a hs
       obtain ⟨t177, hx178, H⟩ := bind_some H
       refine q_call hs (by rfl) (fun wx hbx => (machine_Machine_Regs.calls (some ⟨g61, 0, none⟩) t105 t177 _ ((rSmachine_Machine.of_m (hw.up 1)).below hbx) hx178).mono fun e wy h => ⟨h.1, below_st hbx h.2⟩) [140] ?_; clear hs; intro a hs
       refine q_run hs (by rfl) (fun wx hbx => (x_lds (off := 0) (p := ad142) (cs := (eSapi_Regs.enc v172)) ((Rd.of_own (hw.up 0)).below hbx) (one_ok (a1.S : Sapi_Regs)) (one_at _ _))) [16] ?_; clear hs; intro a hs
       refine q_run hs (by rfl) (fun wx hbx => (x_eql (xs := (eSapi_Regs.enc t177).toArray) (ys := (eSapi_Regs.enc v172).toArray) (r := ((decide (t177.R = v172.R)) && ((t177.H == v172.H) && ((t177.N == v172.N) && ((t177.Z == v172.Z) && ((t177.C == v172.C) && ((t177.V == v172.V) && true))))))) (by kernel_rfl) (by kernel_rfl) (by kernel_rfl) (eq_struct Try.underlying26 (by kernel_rfl) (eq_cons (a := .agg (eA24.enc t177.R).toArray) (b := .agg (eA24.enc v172.R).toArray) (r := (decide (t177.R = v172.R))) (s := ((t177.H == v172.H) && ((t177.N == v172.N) && ((t177.Z == v172.Z) && ((t177.C == v172.C) && ((t177.V == v172.V) && true)))))) (by kernel_rfl) (part_pv (by kernel_rfl)) (part_pv (by kernel_rfl)) (eq_vec (e := 23) (k' := .u32) (k := .u32) t177.R v172.R (by kernel_rfl) (by kernel_rfl) (by kernel_rfl) (by kernel_rfl) (by kernel_rfl)) (eq_cons (a := .int .u32 t177.H) (b := .int .u32 v172.H) (r := (t177.H == v172.H)) (s := ((t177.N == v172.N) && ((t177.Z == v172.Z) && ((t177.C == v172.C) && ((t177.V == v172.V) && true))))) (by kernel_rfl) (part_pv (by kernel_rfl)) (part_pv (by kernel_rfl)) (eq_pv (by kernel_rfl)) (eq_cons (a := .bool t177.N) (b := .bool v172.N) (r := (t177.N == v172.N)) (s := ((t177.Z == v172.Z) && ((t177.C == v172.C) && ((t177.V == v172.V) && true)))) (by kernel_rfl) (part_pv (by kernel_rfl)) (part_pv (by kernel_rfl)) (eq_pv (by kernel_rfl)) (eq_cons (a := .bool t177.Z) (b := .bool v172.Z) (r := (t177.Z == v172.Z)) (s := ((t177.C == v172.C) && ((t177.V == v172.V) && true))) (by kernel_rfl) (part_pv (by kernel_rfl)) (part_pv (by kernel_rfl)) (eq_pv (by kernel_rfl)) (eq_cons (a := .bool t177.C) (b := .bool v172.C) (r := (t177.C == v172.C)) (s := ((t177.V == v172.V) && true)) (by kernel_rfl) (part_pv (by kernel_rfl)) (part_pv (by kernel_rfl)) (eq_pv (by kernel_rfl)) (eq_cons (a := .bool t177.V) (b := .bool v172.V) (r := (t177.V == v172.V)) (s := true) (by kernel_rfl) (part_pv (by kernel_rfl)) (part_pv (by kernel_rfl)) (eq_pv (by kernel_rfl)) eq_nil))))))))) [141, 142] ?_; clear hs; intro a hs
       refine q_pvs 9 [139, 143] [(145, .bool ((decide (t177.R = v172.R)) && ((t177.H == v172.H) && ((t177.N == v172.N) && ((t177.Z == v172.Z) && ((t177.C == v172.C) && ((t177.V == v172.V) && true)))))))] hs ?_; clear hs; intro a hs
       cases hb179 : ((decide (t177.R = v172.R)) && ((t177.H == v172.H) && ((t177.N == v172.N) && ((t177.Z == v172.Z) && ((t177.C == v172.C) && ((t177.V == v172.V) && true))))))
       ·replace H := ite_f H (ff hb179)
        rw [hb179] at hs
        refine q_pvs 15 [9, 17, 145] [(4, .bool false)] hs ?_; clear hs; intro a hs
        refine q_end ?_
        intro wq hbq
        replace hw := hw.behind hbq
        replace hw := hw.up 5
        replace hw := hw.up 5
        replace hw := hw.up 5
        replace hw := hw.up 5
        replace hw := hw.up 5
        replace hw := hw.up 5
        exact hJ9 false _ _ hs.kx hw H
       ·replace H := ite_t H hb179
        rw [hb179] at hs
        refine q_pvs 10 [9] [(146, .pointer (some (⟨g61, 0, none⟩ : Addr)))] hs ?_; clear hs; intro a hs
        obtain ⟨t181, hx182, H⟩ := bind_some H
        refine q_call hs (by rfl) (fun wx hbx => (machine_Machine_PC.calls (some ⟨g61, 0, none⟩) t105 t181 _ ((rSmachine_Machine.of_m (hw.up 1)).below hbx) hx182).mono fun e wy h => ⟨h.1, below_st hbx h.2⟩) [146] ?_; clear hs; intro a hs
        refine q_pvs 15 [17, 145, 147] [(4, .bool (t181 == v173))] hs ?_; clear hs; intro a hs
        refine q_end ?_
        intro wq hbq
        replace hw := hw.behind hbq
        replace hw := hw.up 5
        replace hw := hw.up 5
        replace hw := hw.up 5
        replace hw := hw.up 5
        replace hw := hw.up 5
        replace hw := hw.up 5
        exact hJ9 (t181 == v173) _ _ hs.kx hw H
     refine go_sk fun K150 hK150 => ?_
     refine go_pvs 1 [] [(110, .pointer (some (⟨g6, 0, none⟩ : Addr)))] hs ?_; clear hs; intro a hs
     refine go_run hs (by rfl) (x_blds (g := g6) (o := 0) (p := (⟨g6, 0, none⟩ : Addr)) (vs := (eSapi_Regs.enc a1.S)) (hw.up 4)) [110] ?_; clear hs; intro a hs
     refine go_pvs 3 [] [(112, .pointer (some ((ad22 : Addr).add 1)))] hs ?_; clear hs; intro a hs
     refine go_run hs (by rfl) (x_ld (off := 1) (p := (ad22 : Addr).add 1) (v := .int .i64 v39.Op) (Rd.of_own (hw.up 3)) (one_ok (t18 : Sapi_Instr)) (one_off _ _ _)) [112] ?_; clear hs; intro a hs
     obtain ⟨t152, hx153, H⟩ := bind_some H
     refine go_call hs (by rfl) (alu_Taken.calls a1.S v39.Op t152 _ hx153) ?_
     rintro e wd154 ⟨rfl, hw155⟩
     refine ⟨_, rfl, ?_⟩
     replace hw := hw.call hw155
     clear hs; intro a hs; replace hs := hs.rms [111, 113]
     refine go_end (hK150 _ _ ?_)
     refine go_cond hs t152 (fun hc => ?_) fun hc => ?_
     ·replace H := ite_t H hc
      have hb156 := hc
      rw [hb156] at hs
      refine go_sk fun K157 hK157 => ?_
      refine go_pvs 3 [17, 114] [(116, .int .u32 (wu32 (y72 + 4))), (117, .pointer (some ((ad22 : Addr).add 5)))] hs ?_; clear hs; intro a hs
      replace hs : Slots a 151 [(3, .pointer (some (⟨g6, 0, none⟩ : Addr))), (6, .pointer (some ad22)), (9, .pointer (some (⟨g61, 0, none⟩ : Addr))), (12, .int .u32 y72), (13, .int .i64 t104), (16, .pointer (some ad142)), (116, .int .u32 (wu32 (y72 + 4))), (117, .pointer (some ((ad22 : Addr).add 5)))] := hs.kx
      refine go_run hs (by rfl) (x_ld (off := 5) (p := (ad22 : Addr).add 5) (v := .int .i64 v39.Imm) (Rd.of_own (hw.up 3)) (one_ok (t18 : Sapi_Instr)) (one_off _ _ _)) [117] ?_; clear hs; intro a hs
      refine go_pvs 8 [116, 118] [(17, .int .u32 (wu32 ((wu32 (y72 + 4)) + (wu32 ((wu32 v39.Imm) * 4)))))] hs ?_; clear hs; intro a hs
      obtain ⟨y158, hy158, H⟩ := nm_some H
      replace hs : Slots a 151 [(3, .pointer (some (⟨g6, 0, none⟩ : Addr))), (6, .pointer (some ad22)), (9, .pointer (some (⟨g61, 0, none⟩ : Addr))), (12, .int .u32 y72), (13, .int .i64 t104), (16, .pointer (some ad142)), (17, .int .u32 y158)] := by rw [hy158]; exact hs.kx
      refine go_end (hK157 _ _ ?_)
      refine go_seq_k fun K159 hK159 => ?_
      have hJ7 : ∀ (v165 : Int) (a : Act) (w : World), Slots a 151 [(6, .pointer (some ad22)), (9, .pointer (some (⟨g61, 0, none⟩ : Addr))), (12, .int .u32 y72), (13, .int .i64 t104), (16, .pointer (some ad142)), (17, .int .u32 v165)] → St [] w0 w [own 26 eSapi_Regs (some ad142) 1 [(a1.S : Sapi_Regs)], mSmachine_Machine (some ⟨g61, 0, none⟩) t105, own 23 (eI .u32) Aa85 cc86 ([t42] : List Int), own 45 eSapi_Instr (some ad22) 1 [v39], box g6 28 (eSapi_Regs.enc a1.S ++ [.int .u32 a1.PC, .slice A1_1 a1.In.length c1_1]), own 45 eSapi_Instr (some ad2) 1 [a0]] → rivetlaw06_MachineOps.j7 v39 t104 t105 a1 y72 v165 = some r → K159 a w := by
       intro v165 a w hs hw H
       unfold rivetlaw06_MachineOps.j7 at H
       refine hK159 _ _ ?_
       refine go_sk fun K166 hK166 => ?_
       refine go_pvs 1 [6] [(131, .pointer (some ((ad22 : Addr).add 6)))] hs ?_; clear hs; intro a hs
       refine go_run hs (by rfl) (x_ld (off := 6) (p := (ad22 : Addr).add 6) (v := .bool v39.U) (Rd.of_own (hw.up 3)) (one_ok (t18 : Sapi_Instr)) (one_off _ _ _)) [131] ?_; clear hs; intro a hs
       refine go_end (hK166 _ _ ?_)
       refine go_cond hs v39.U (fun hc => ?_) fun hc => ?_
       ·replace H := ite_t H hc
        have hb167 := hc
        rw [hb167] at hs
        refine go_region ?_
        refine go_pvs 3 [12, 132] [(134, .int .u32 (wu32 (y72 + 4))), (135, .pointer (some ((ad142 : Addr).add 0)))] hs ?_; clear hs; intro a hs
        refine go_run hs (by rfl) (x_vidx (e := 23) (p := (ad142 : Addr).add 0) (n := 16) (k := .i64) (i := 15) (sz := 1) (⟨by decide, by decide⟩ : (0 : Int) ≤ 15 ∧ (15 : Int) < ((16 : Nat) : Int))) [135] ?_; clear hs; intro a hs
        obtain ⟨wd168, hx169, hw⟩ := x_put (P := Try.prog) (ty := 0) (t := 23) (x := (Operand.tmp 136)) (y := (Operand.tmp 134)) (off := 0 + 15 * 1) (p := ((ad142 : Addr).add 0 : Addr).add ((15 : Int).toNat * 1)) (v := .int .u32 (wu32 (y72 + 4))) (vs := [.int .u32 (wu32 (y72 + 4))]) (i := 0) (e' := (({ (a1.S : Sapi_Regs) with R := vset ((a1.S : Sapi_Regs).R) 15 (wu32 (y72 + 4)) } : Sapi_Regs) : Sapi_Regs)) hs hw rfl (one_ok (a1.S : Sapi_Regs)).1 (one_ok (a1.S : Sapi_Regs)).2 (by kernel_rfl) (by simp only [add_add', Int.toNat_zero, Nat.zero_mul, Nat.zero_add, Nat.mul_one] <;> rfl) (by kernel_rfl) rfl (by kernel_rfl) (by have := (⟨by decide, by decide⟩ : (0 : Int) ≤ 15 ∧ (15 : Int) < ((16 : Nat) : Int)); show 0 + _ * 1 + 1 ≤ 21; omega) (by simp [Value.oneCell']) (vput (cs := eSapi_Regs.enc (a1.S : Sapi_Regs)) (cs' := eSapi_Regs.enc ({ (a1.S : Sapi_Regs) with R := vset ((a1.S : Sapi_Regs).R) 15 (wu32 (y72 + 4)) } : Sapi_Regs)) (pre := []) (post := [.int .u32 ((a1.S : Sapi_Regs).H), .bool ((a1.S : Sapi_Regs).N), .bool ((a1.S : Sapi_Regs).Z), .bool ((a1.S : Sapi_Regs).C), .bool ((a1.S : Sapi_Regs).V)]) (f := (fun j : Nat => .int .u32 (vx 0 ((a1.S : Sapi_Regs).R) j))) (f' := (fun j : Nat => .int .u32 (vx 0 (vset ((a1.S : Sapi_Regs).R) 15 (wu32 (y72 + 4))) j))) (n := 16) (o := 0) (i := 15) (v := .int .u32 (wu32 (y72 + 4))) (by kernel_rfl) (by kernel_rfl) rfl (by have := (⟨by decide, by decide⟩ : (0 : Int) ≤ 15 ∧ (15 : Int) < ((16 : Nat) : Int)); omega) (vx_put (by have := (⟨by decide, by decide⟩ : (0 : Int) ≤ 15 ∧ (15 : Int) < ((16 : Nat) : Int)); omega)))
        refine go_unit hs (by rfl) hx169 [134, 136] ?_; clear hs; intro a hs
        replace hw : St [] w0 wd168 [own 26 eSapi_Regs (some ad142) 1 [({ (a1.S : Sapi_Regs) with R := vset ((a1.S : Sapi_Regs).R) 15 (wu32 (y72 + 4)) } : Sapi_Regs)], mSmachine_Machine (some ⟨g61, 0, none⟩) t105, own 23 (eI .u32) Aa85 cc86 ([t42] : List Int), own 45 eSapi_Instr (some ad22) 1 [v39], box g6 28 (eSapi_Regs.enc a1.S ++ [.int .u32 a1.PC, .slice A1_1 a1.In.length c1_1]), own 45 eSapi_Instr (some ad2) 1 [a0]] := hw
        refine go_end ?_
        replace hw := hw.up 5
        replace hw := hw.up 5
        replace hw := hw.up 5
        replace hw := hw.up 5
        replace hw := hw.up 5
        replace hw := hw.up 5
        exact hJ8 ({ (a1.S : Sapi_Regs) with R := vset ((a1.S : Sapi_Regs).R) 15 (wu32 (y72 + 4)) } : Sapi_Regs) v165 _ _ hs.kx hw H
       ·replace H := ite_f H (ff hc)
        have hb170 := hc
        rw [hb170] at hs
        refine wp_skip ?_
        replace hw := hw.up 5
        replace hw := hw.up 5
        replace hw := hw.up 5
        replace hw := hw.up 5
        replace hw := hw.up 5
        replace hw := hw.up 5
        exact hJ8 (a1.S : Sapi_Regs) v165 _ _ hs.kx hw H
      refine go_sk fun K160 hK160 => ?_
      refine go_pvs 1 [] [(122, .pointer (some ((ad22 : Addr).add 0)))] hs ?_; clear hs; intro a hs
      refine go_run hs (by rfl) (x_ld (off := 0) (p := (ad22 : Addr).add 0) (v := .int .i64 v39.Kind) (Rd.of_own (hw.up 3)) (one_ok (t18 : Sapi_Instr)) (one_off _ _ _)) [122] ?_; clear hs; intro a hs
      refine go_pvs 3 [123] [(124, .bool (v39.Kind == 6))] hs ?_; clear hs; intro a hs
      refine go_end (hK160 _ _ ?_)
      refine go_cond hs (v39.Kind == 6) (fun hc => ?_) fun hc => ?_
      ·replace H := ite_t H (beq_iff_eq.1 hc)
       have hb161 := hc
       rw [hb161] at hs
       refine go_region ?_
       refine go_pvs 1 [17, 124] [(125, .pointer (some ((ad22 : Addr).add 4)))] hs ?_; clear hs; intro a hs
       refine go_run hs (by rfl) (x_ld (off := 4) (p := (ad22 : Addr).add 4) (v := .int .i64 v39.C) (Rd.of_own (hw.up 3)) (one_ok (t18 : Sapi_Instr)) (one_off _ _ _)) [125] ?_; clear hs; intro a hs
       refine go_pvs 4 [3] [(128, .pointer (some (⟨g6, 0, none⟩ : Addr)))] hs ?_; clear hs; intro a hs
       obtain ⟨hp162, H⟩ := ite_only H
       refine go_run hs (by rfl) (x_vidx (e := 23) (p := (⟨g6, 0, none⟩ : Addr)) (n := 16) (k := .i64) (i := v39.C) (sz := 1) hp162) [126, 128] ?_; clear hs; intro a hs
       refine go_run hs (by rfl) (x_bld (g := g6) (o := 0 + (v39.C : Int).toNat * 1) (p := (⟨g6, 0, none⟩ : Addr).add ((v39.C : Int).toNat * 1)) (v := .int .u32 (vx 0 a1.S.R (v39.C : Int).toNat)) (hw.up 4) (hp := badd _ _ _) (hv := (vget (cs := eSapi_Regs.enc a1.S ++ [.int .u32 a1.PC, .slice A1_1 a1.In.length c1_1]) (pre := []) (post := [.int .u32 a1.S.H, .bool a1.S.N, .bool a1.S.Z, .bool a1.S.C, .bool a1.S.V] ++ [.int .u32 a1.PC, .slice A1_1 a1.In.length c1_1]) (f := (fun j : Nat => .int .u32 (vx 0 a1.S.R j))) (n := 16) (o := 0) (i := (v39.C : Int).toNat) (by kernel_rfl) rfl (by have := hp162; omega)))) [129] ?_; clear hs; intro a hs
       refine go_pvs 7 [130] [(17, .int .u32 (vx 0 a1.S.R (v39.C : Int).toNat))] hs ?_; clear hs; intro a hs
       obtain ⟨y163, hy163, H⟩ := nm_some H
       replace hs : Slots a 151 [(6, .pointer (some ad22)), (9, .pointer (some (⟨g61, 0, none⟩ : Addr))), (12, .int .u32 y72), (13, .int .i64 t104), (16, .pointer (some ad142)), (17, .int .u32 y163)] := by rw [hy163]; exact hs.kx
       refine go_end ?_
       replace hw := hw.up 5
       replace hw := hw.up 5
       replace hw := hw.up 5
       replace hw := hw.up 5
       replace hw := hw.up 5
       replace hw := hw.up 5
       exact hJ7 y163 _ _ hs.kx hw H
      ·replace H := ite_f H (beq_eq_false_iff_ne.1 hc)
       have hb164 := hc
       rw [hb164] at hs
       refine wp_skip ?_
       replace hw := hw.up 5
       replace hw := hw.up 5
       replace hw := hw.up 5
       replace hw := hw.up 5
       replace hw := hw.up 5
       replace hw := hw.up 5
       exact hJ7 y158 _ _ hs.kx hw H
     ·replace H := ite_f H (ff hc)
      have hb171 := hc
      rw [hb171] at hs
      refine wp_skip ?_
      replace hw := hw.up 5
      replace hw := hw.up 5
      replace hw := hw.up 5
      replace hw := hw.up 5
      replace hw := hw.up 5
      replace hw := hw.up 5
      exact hJ8 (a1.S : Sapi_Regs) (wu32 (y72 + 4)) _ _ hs.kx hw H
   refine go_seq_k fun K63 hK63 => ?_
   have hJ3 : ∀ (v66 : Bool) (a : Act) (w : World), Slots a 151 [(3, .pointer (some (⟨g6, 0, none⟩ : Addr))), (6, .pointer (some ad22)), (7, .int .u32 t42), (9, .pointer (some (⟨g61, 0, none⟩ : Addr))), (54, .bool v66)] → St [] w0 w [mSmachine_Machine (some ⟨g61, 0, none⟩) x56, own 45 eSapi_Instr (some ad22) 1 [v39], box g6 28 (eSapi_Regs.enc a1.S ++ [.int .u32 a1.PC, .slice A1_1 a1.In.length c1_1]), own 45 eSapi_Instr (some ad2) 1 [a0]] → rivetlaw06_MachineOps.j3 a1 x56 t42 v39 v66 = some r → K63 a w := by
    intro v66 a w hs hw H
    unfold rivetlaw06_MachineOps.j3 at H
    refine hK63 _ _ ?_
    refine go_cond hs v66 (fun hc => ?_) fun hc => ?_
    ·replace H := ite_t H hc
     have hb67 := hc
     rw [hb67] at hs
     refine go_sp [3, 6, 7, 9, 54] [(4, .bool false)] hs ?_; clear hs; intro a hs
     refine wp_ret ?_
     refine th_ret ?_
     obtain rfl := Option.some.inj H
     refine ret1 (t := 4) (v := .bool false) hs (by kernel_rfl) (by kernel_rfl) ?_
     exact ⟨rfl, hw.only 0⟩
    ·replace H := ite_f H (ff hc)
     have hb69 := hc
     rw [hb69] at hs
     refine wp_skip ?_
     replace hw := hw.up 3
     replace hw := hw.up 3
     replace hw := hw.up 3
     replace hw := hw.up 3
     exact hJ4 _ _ hs.kx hw H
   refine go_region ?_
   refine go_pvs 3 [5] [(43, .bool (!t12))] hs ?_; clear hs; intro a hs
   cases hb64 : (!t12)
   ·replace H := ite_t H (nf hb64)
    rw [hb64] at hs
    refine go_pvs 11 [8, 43] [(51, .bool (t43 != 0))] hs ?_; clear hs; intro a hs
    cases hb65 : (t43 != 0)
    ·replace H := ite_t H (bne_eq_false_iff_eq.1 hb65)
     rw [hb65] at hs
     refine go_pvs 14 [10, 51] [(54, .bool (t50 != 0))] hs ?_; clear hs; intro a hs
     refine go_end ?_
     replace hw := hw.up 3
     replace hw := hw.up 3
     replace hw := hw.up 3
     replace hw := hw.up 3
     exact hJ3 (t50 != 0) _ _ hs.kx hw H
    ·replace H := ite_f H (bne_iff_ne.1 hb65)
     rw [hb65] at hs
     refine go_pvs 14 [10, 51] [(54, .bool true)] hs ?_; clear hs; intro a hs
     refine go_end ?_
     replace hw := hw.up 3
     replace hw := hw.up 3
     replace hw := hw.up 3
     replace hw := hw.up 3
     exact hJ3 true _ _ hs.kx hw H
   ·replace H := ite_f H (ff (nt hb64))
    rw [hb64] at hs
    refine go_pvs 14 [8, 10, 43] [(54, .bool true)] hs ?_; clear hs; intro a hs
    refine go_end ?_
    replace hw := hw.up 3
    replace hw := hw.up 3
    replace hw := hw.up 3
    replace hw := hw.up 3
    exact hJ3 true _ _ hs.kx hw H
 refine go_sk fun K29 hK29 => ?_
 refine go_pvs 1 [] [(21, .pointer (some ((ad22 : Addr).add 0)))] hs ?_; clear hs; intro a hs
 refine go_run hs (by rfl) (x_ld (off := 0) (p := (ad22 : Addr).add 0) (v := .int .i64 ((t18 : Sapi_Instr).Kind)) (Rd.of_own (hw.up 0)) (one_ok (t18 : Sapi_Instr)) (one_off _ _ _)) [21] ?_; clear hs; intro a hs
 refine go_pvs 3 [22] [(23, .bool (((t18 : Sapi_Instr).Kind) == 5))] hs ?_; clear hs; intro a hs
 refine go_end (hK29 _ _ ?_)
 refine go_cond hs (((t18 : Sapi_Instr).Kind) == 5) (fun hc => ?_) fun hc => ?_
 ·replace H := ite_t H (beq_iff_eq.1 hc)
  have hb30 := hc
  rw [hb30] at hs
  refine go_region ?_
  refine go_pvs 1 [23] [(24, .pointer (some ((ad2 : Addr).add 1)))] hs ?_; clear hs; intro a hs
  refine go_run hs (by rfl) (x_ld (off := 1) (p := (ad2 : Addr).add 1) (v := .int .i64 a0.Op) (Rd.of_own (hw.up 2)) (one_ok a0) (one_off _ _ _)) [24] ?_; clear hs; intro a hs
  refine go_pvs 3 [] [(26, .pointer (some ((ad2 : Addr).add 5)))] hs ?_; clear hs; intro a hs
  refine go_run hs (by rfl) (x_ld (off := 5) (p := (ad2 : Addr).add 5) (v := .int .i64 a0.Imm) (Rd.of_own (hw.up 2)) (one_ok a0) (one_off _ _ _)) [26] ?_; clear hs; intro a hs
  refine go_pvs 5 [2] [(28, .pointer (some ((ad2 : Addr).add 6)))] hs ?_; clear hs; intro a hs
  refine go_run hs (by rfl) (x_ld (off := 6) (p := (ad2 : Addr).add 6) (v := .bool a0.U) (Rd.of_own (hw.up 2)) (one_ok a0) (one_off _ _ _)) [28] ?_; clear hs; intro a hs
  refine go_pvs 7 [25, 27, 29] [(30, .agg (eSapi_Instr.enc (⟨6, a0.Op, 0, 0, 0, a0.Imm, a0.U⟩ : Sapi_Instr)).toArray)] hs ?_; clear hs; intro a hs
  obtain ⟨t32, hx33, H⟩ := bind_some H
  refine go_call hs (by rfl) (rivetref03_Fit.calls (⟨6, a0.Op, 0, 0, 0, a0.Imm, a0.U⟩ : Sapi_Instr) t32 _ hx33) ?_
  rintro e wd34 ⟨rfl, hw35⟩
  refine ⟨_, rfl, ?_⟩
  replace hw := hw.call hw35
  clear hs; intro a hs; replace hs := hs.rms [30]
  obtain ⟨wd36, hx37, hw⟩ := x_put (P := Try.prog) (ty := 0) (t := 45) (x := (Operand.tmp 6)) (y := (Operand.tmp 31)) (off := 0) (p := ad22) (v := .agg (eSapi_Instr.enc t32).toArray) (vs := (eSapi_Instr.enc t32)) (i := 0) (e' := ((t32 : Sapi_Instr) : Sapi_Instr)) hs hw rfl (one_ok (t18 : Sapi_Instr)).1 (one_ok (t18 : Sapi_Instr)).2 (by kernel_rfl) (one_at _ _) (by kernel_rfl) rfl (by kernel_rfl) (Nat.le_of_ble_eq_true rfl) (eSapi_Instr.one _) (by kernel_rfl)
  refine go_unit hs (by rfl) hx37 [31] ?_; clear hs; intro a hs
  replace hw : St [] w0 wd36 [own 45 eSapi_Instr (some ad22) 1 [(t32 : Sapi_Instr)], box g6 28 (eSapi_Regs.enc a1.S ++ [.int .u32 a1.PC, .slice A1_1 a1.In.length c1_1]), own 45 eSapi_Instr (some ad2) 1 [a0]] := hw
  refine go_end ?_
  replace hw := hw.up 2
  replace hw := hw.up 2
  replace hw := hw.up 2
  exact hJ1 (t32 : Sapi_Instr) _ _ hs.kx hw H
 ·replace H := ite_f H (beq_eq_false_iff_ne.1 hc)
  have hb38 := hc
  rw [hb38] at hs
  refine wp_skip ?_
  replace hw := hw.up 2
  replace hw := hw.up 2
  replace hw := hw.up 2
  exact hJ1 (t18 : Sapi_Instr) _ _ hs.kx hw H

end Go.Proofs.Ytheccnbamcdpmaa.T06
