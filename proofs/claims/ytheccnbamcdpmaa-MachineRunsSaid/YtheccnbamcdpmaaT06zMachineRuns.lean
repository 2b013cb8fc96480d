/- YtheccnbamcdpmaaT06zMachineRuns: Go functions told as plain ones, each with a proof that its call comes to what is told, part 1. Condition of each: that the plain function comes to a value. -/
import Derived.Test.YtheccnbamcdpmaaT06
import Derived.Test.YtheccnbamcdpmaaEP
import Derived.Test.YtheccnbamcdpmaaProg
namespace Go.Proofs.Ytheccnbamcdpmaa.T06
open Go Go.RowKit Go.Proofs.Ytheccnbamcdpmaa.E
set_option linter.unusedVariables false
set_option linter.unusedSimpArgs false
def eA60 : Enc (Vector Int 2) := ⟨2, fun x => [.int .i8 (vx 0 x 0), .int .i8 (vx 0 x 1)], (Vector.replicate 2 0), by decide, fun _ => rfl, fun x u hu => by simp at hu; rcases hu with rfl | rfl <;> rfl⟩
def eA24 : Enc (Vector Int 16) := ⟨16, fun x => [.int .u32 (vx 0 x 0), .int .u32 (vx 0 x 1), .int .u32 (vx 0 x 2), .int .u32 (vx 0 x 3), .int .u32 (vx 0 x 4), .int .u32 (vx 0 x 5), .int .u32 (vx 0 x 6), .int .u32 (vx 0 x 7), .int .u32 (vx 0 x 8), .int .u32 (vx 0 x 9), .int .u32 (vx 0 x 10), .int .u32 (vx 0 x 11), .int .u32 (vx 0 x 12), .int .u32 (vx 0 x 13), .int .u32 (vx 0 x 14), .int .u32 (vx 0 x 15)], (Vector.replicate 16 0), by decide, fun _ => rfl, fun x u hu => by simp at hu; rcases hu with rfl | rfl | rfl | rfl | rfl | rfl | rfl | rfl | rfl | rfl | rfl | rfl | rfl | rfl | rfl | rfl <;> rfl⟩
/-! rivet/rivetlaw06.MachineRuns: function 6 -/
noncomputable def rivetlaw06_MachineRuns.b146 (y111 : Int) (y113 : Int) (v147 : Smachine_Machine) (v148 : Int) : Option (Smachine_Machine × Int ⊕ Smachine_Machine) := (if v148 < (w64 (y111 + y113)) then ((machine_Machine_Step v147).bind fun ⟨t154, t155⟩ => (some (.inl (t155, w64 (v148 + 1))))) else some (.inr v147))
noncomputable def rivetlaw06_MachineRuns.j6 (v321 : Bool) : Option Bool := some v321
noncomputable def rivetlaw06_MachineRuns.j5 (t127 : Smachine_Machine) (t137 : Smachine_Machine) (v188 : Smachine_Machine) : Option Bool := ((machine_Machine_PC t127).bind fun t191 => (((machine_Machine_PC t137).bind fun t196 => ((if t191 = t196 then ((machine_Machine_Regs t127).bind fun t202 => (((machine_Machine_Regs t137).bind fun t207 => ((if ((decide (t202.R = t207.R)) && ((t202.H == t207.H) && ((t202.N == t207.N) && ((t202.Z == t207.Z) && ((t202.C == t207.C) && ((t202.V == t207.V) && true)))))) = true then ((machine_Machine_PC t127).bind fun t213 => (((machine_Machine_PC v188).bind fun t218 => ((if t213 = t218 then ((machine_Machine_Regs t127).bind fun t224 => (((machine_Machine_Regs v188).bind fun t229 => ((if ((decide (t224.R = t229.R)) && ((t224.H == t229.H) && ((t224.N == t229.N) && ((t224.Z == t229.Z) && ((t224.C == t229.C) && ((t224.V == t229.V) && true)))))) = true then ((machine_Machine_Out t127).bind fun t235 => (((machine_Machine_Out t137).bind fun t243 => (((rivetref05_Same t235 t243).bind fun t251 => ((if t251 = true then ((t127.Memory).bind fun y264 => (((v188.Memory).bind fun y275 => (((memory_Memory_Words y264).bind fun t279 => (((memory_Memory_Words y275).bind fun t287 => (((rivetref05_Same t279 t287).bind fun t295 => ((if t295 = true then ((machine_Machine_Out t137).bind fun t301 => (((machine_Machine_Out v188).bind fun t309 => (((rivetref05_Same t301 t309).bind fun t317 => (rivetlaw06_MachineRuns.j6 t317)))))) else rivetlaw06_MachineRuns.j6 false))))))))))) else rivetlaw06_MachineRuns.j6 false))))))) else rivetlaw06_MachineRuns.j6 false))))) else rivetlaw06_MachineRuns.j6 false))))) else rivetlaw06_MachineRuns.j6 false))))) else rivetlaw06_MachineRuns.j6 false)))))
noncomputable def rivetlaw06_MachineRuns.j4 (t127 : Smachine_Machine) (t137 : Smachine_Machine) (v183 : Smachine_Machine) (v184 : Bool) : Option Bool := (if v184 = true then some false else rivetlaw06_MachineRuns.j5 t127 t137 v183)
noncomputable def rivetlaw06_MachineRuns.j3 (t136 : Int) (t126 : Int) (t127 : Smachine_Machine) (t137 : Smachine_Machine) (v160 : Smachine_Machine) : Option Bool := ((machine_Machine_Run v160 (-1)).bind fun ⟨t164, t165⟩ => ((if t164 = t136 then ((machine_Machine_Run t165 0).bind fun ⟨t171, t172⟩ => ((if t171 = t136 then (if t126 = t136 then ((machine_Machine_Status t172).bind fun t179 => (rivetlaw06_MachineRuns.j4 t127 t137 t172 (t179 != t136))) else rivetlaw06_MachineRuns.j4 t127 t137 t172 true) else rivetlaw06_MachineRuns.j4 t127 t137 t172 true))) else rivetlaw06_MachineRuns.j4 t127 t137 t165 true)))
noncomputable def rivetlaw06_MachineRuns.j2 (a2 : Vector Int 2) (x103 : Option Smachine_Machine) (x106 : Option Smachine_Machine) (x109 : Option Smachine_Machine) : Option Bool := (nm (band .i64 (w64 (vx 0 a2 0)) 63) fun y111 => (nm (band .i64 (w64 (vx 0 a2 1)) 63) fun y113 => ((x103).bind fun y115 => (((machine_Machine_Run y115 y111).bind fun ⟨t119, t120⟩ => (((machine_Machine_Run t120 y113).bind fun ⟨t126, t127⟩ => (((x106).bind fun y132 => (((machine_Machine_Run y132 (w64 (y111 + y113))).bind fun ⟨t136, t137⟩ => (((x109).bind fun y143 => (((loopO (fun (σ : Smachine_Machine × Int) => rivetlaw06_MachineRuns.b146 y111 y113 σ.1 σ.2) (y143, 0)).bind fun e => rivetlaw06_MachineRuns.j3 t136 t126 t127 t137 e)))))))))))))))
noncomputable def rivetlaw06_MachineRuns.j1 (a2 : Vector Int 2) (x87 : Option Smachine_Machine) (x90 : Option Smachine_Machine) (x93 : Option Smachine_Machine) (v94 : Bool) : Option Bool := (if v94 = true then some false else rivetlaw06_MachineRuns.j2 a2 x87 x90 x93)
noncomputable def rivetlaw06_MachineRuns (l0 : List Int) (a1 : Srivetlaw06_Set) (a2 : Vector Int 2) : Option Bool := ((rivetlaw06_shown).bind fun t12 => (((rivetlaw06_fit l0).bind fun t21 => (((rivetlaw06_made t21 (⟨a1.S, a1.PC.tmod 80, a1.In⟩ : Srivetlaw06_Set)).bind fun ⟨t29, t30⟩ => (((rivetlaw06_fit l0).bind fun t40 => (((rivetlaw06_made t40 (⟨a1.S, a1.PC.tmod 80, a1.In⟩ : Srivetlaw06_Set)).bind fun ⟨t48, t49⟩ => (((rivetlaw06_fit l0).bind fun t59 => (((rivetlaw06_made t59 (⟨a1.S, a1.PC.tmod 80, a1.In⟩ : Srivetlaw06_Set)).bind fun ⟨t67, t68⟩ => ((if t12 = true then (match t29 with | none => rivetlaw06_MachineRuns.j1 a2 (none : Option Smachine_Machine) t48 t67 true | some x79 => (match t48 with | none => rivetlaw06_MachineRuns.j1 a2 (some x79) (none : Option Smachine_Machine) t67 true | some x81 => (match t67 with | none => rivetlaw06_MachineRuns.j1 a2 (some x79) (some x81) (none : Option Smachine_Machine) true | some x83 => rivetlaw06_MachineRuns.j1 a2 (some x79) (some x81) (some x83) false))) else rivetlaw06_MachineRuns.j1 a2 t29 t48 t67 true)))))))))))))))
set_option maxRecDepth 100000 in
set_option maxHeartbeats 4000000 in
theorem rivetlaw06_MachineRuns.calls (A0 : Option Addr) (c0 : Nat) (l0 : List Int) (a1 : Srivetlaw06_Set) (A1_1 : Option Addr) (c1_1 : Nat) (a2 : Vector Int 2) (r : Bool) (w0 : World) (hr0 : Rd w0 (eI .u32) A0 c0 l0) (hr1_1 : Rd w0 (eI .u32) A1_1 c1_1 a1.In) (H : rivetlaw06_MachineRuns l0 a1 a2 = some r) :
    Calls Try.prog 6 #[.slice A0 l0.length c0, .agg #[.int .u32 (vx 0 a1.S.R 0), .int .u32 (vx 0 a1.S.R 1), .int .u32 (vx 0 a1.S.R 2), .int .u32 (vx 0 a1.S.R 3), .int .u32 (vx 0 a1.S.R 4), .int .u32 (vx 0 a1.S.R 5), .int .u32 (vx 0 a1.S.R 6), .int .u32 (vx 0 a1.S.R 7), .int .u32 (vx 0 a1.S.R 8), .int .u32 (vx 0 a1.S.R 9), .int .u32 (vx 0 a1.S.R 10), .int .u32 (vx 0 a1.S.R 11), .int .u32 (vx 0 a1.S.R 12), .int .u32 (vx 0 a1.S.R 13), .int .u32 (vx 0 a1.S.R 14), .int .u32 (vx 0 a1.S.R 15), .int .u32 a1.S.H, .bool a1.S.N, .bool a1.S.Z, .bool a1.S.C, .bool a1.S.V, .int .u32 a1.PC, .slice A1_1 a1.In.length c1_1], .agg #[.int .i8 (vx 0 a2 0), .int .i8 (vx 0 a2 1)]] w0 fun e w' => e = .returned (.bool r) ∧ St [] w0 w' [] := by
 have hw : St [] w0 w0 [] := St.nil w0
 unfold rivetlaw06_MachineRuns at H
 refine go_fn Try.func6 rfl Try.ntmps6 ?_; intro a hs
 refine go_sk fun K1 hK1 => ?_
 obtain ⟨g2, wd3, hx4, hw⟩ := x_boxc (P := Try.prog) (elem := 28) (v := (Operand.tmp 1)) (ty := 0) (cs := eSapi_Regs.enc a1.S ++ [.int .u32 a1.PC, .slice A1_1 a1.In.length c1_1]) hs hw (by kernel_rfl)
 refine go_run hs (by rfl) hx4 [1] ?_; clear hs; intro a hs
 obtain ⟨ad6, wd7, hx8, hw⟩ := x_box1 (P := Try.prog) (elem := 60) (v := (Operand.tmp 2)) (ty := 0) hs hw eA60 a2 (by kernel_rfl)
 refine go_run hs (by rfl) hx8 [2] ?_; clear hs; intro a hs
 refine go_pvs 3 [] [] hs ?_; clear hs; intro a hs
 refine go_end (hK1 _ _ ?_)
 refine go_sk fun K10 hK10 => ?_
 obtain ⟨t12, hx13, H⟩ := bind_some H
 refine go_call hs (by rfl) (rivetlaw06_shown.calls t12 _ hx13) ?_
 rintro e wd14 ⟨rfl, hw15⟩
 refine ⟨_, rfl, ?_⟩
 replace hw := hw.call hw15
 clear hs; intro a hs
 refine go_pvs 2 [19] [(7, .bool t12)] hs ?_; clear hs; intro a hs
 refine go_end (hK10 _ _ ?_)
 refine go_sk fun K16 hK16 => ?_
 refine go_pvs 1 [] [(20, .pointer (some (⟨g2, 21, none⟩ : Addr)))] hs ?_; clear hs; intro a hs
 refine go_run hs (by rfl) (x_bld (g := g2) (o := 21) (p := (⟨g2, 21, none⟩ : Addr)) (v := .int .u32 a1.PC) (hw.up 1)) [20] ?_; clear hs; intro a hs
 refine go_pvs 4 [21] [(22, .int .u32 (a1.PC.tmod 80)), (23, .pointer (some (⟨g2, 21, none⟩ : Addr)))] hs ?_; clear hs; intro a hs
 replace hw := hw.up 1
 obtain ⟨wd17, hx18, hw⟩ := x_bput (P := Try.prog) (ty := 0) (t := 23) (y := (Operand.tmp 23)) (z := (Operand.tmp 22)) (o := 21) (p := (⟨g2, 21, none⟩ : Addr)) (v := .int .u32 (a1.PC.tmod 80)) (vs := [.int .u32 (a1.PC.tmod 80)]) (cs' := eSapi_Regs.enc a1.S ++ [.int .u32 (a1.PC.tmod 80), .slice A1_1 a1.In.length c1_1]) hs hw (by kernel_rfl) rfl (by kernel_rfl) rfl (by kernel_rfl) (by kernel_rfl) (by simp [Value.oneCell']) (by kernel_rfl)
 refine go_unit hs (by rfl) hx18 [22, 23] ?_; clear hs; intro a hs
 refine go_end (hK16 _ _ ?_)
 refine go_seq_k fun K19 hK19 => ?_
 refine c_region [(true, [0, 2], 1), (true, [], 3)] [4, 5, 6, 7, 8] (by kernel_rfl) (by kernel_rfl) (fun c a d v w h => by cases d <;> exact h) ?_
 refine c_seg ?_
 refine c_pvs [0] [2] [] [(25, .slice A0 l0.length c0)] hs ?_; clear hs; intro a hs
 refine c_run hs (by rfl) (fun wx hbx => (x_blds (g := g2) (o := 0) (p := (⟨g2, 0, none⟩ : Addr)) (vs := [.int .u32 (vx 0 a1.S.R 0), .int .u32 (vx 0 a1.S.R 1), .int .u32 (vx 0 a1.S.R 2), .int .u32 (vx 0 a1.S.R 3), .int .u32 (vx 0 a1.S.R 4), .int .u32 (vx 0 a1.S.R 5), .int .u32 (vx 0 a1.S.R 6), .int .u32 (vx 0 a1.S.R 7), .int .u32 (vx 0 a1.S.R 8), .int .u32 (vx 0 a1.S.R 9), .int .u32 (vx 0 a1.S.R 10), .int .u32 (vx 0 a1.S.R 11), .int .u32 (vx 0 a1.S.R 12), .int .u32 (vx 0 a1.S.R 13), .int .u32 (vx 0 a1.S.R 14), .int .u32 (vx 0 a1.S.R 15), .int .u32 a1.S.H, .bool a1.S.N, .bool a1.S.Z, .bool a1.S.C, .bool a1.S.V, .int .u32 (a1.PC.tmod 80), .slice A1_1 a1.In.length c1_1]) ((hw.behind hbx).up 0))) [] ?_; clear hs; intro a hs
 refine c_end ?_
 intro wq hbq
 replace hw := hw.behind hbq
 have hbc := Below.refl wq.heap.size wq
 obtain ⟨t21, hx22, H⟩ := bind_some H
 refine p_call hs (by rfl) (rivetlaw06_fit.calls A0 c0 l0 t21 _ (hr0.old hw) hx22) ?_
 rintro e wd25 ⟨Aa23, cc24, rfl, hw26⟩
 refine ⟨_, rfl, ?_⟩
 replace hbc := hw26.below
 replace hw := hw.call hw26
 clear hs; intro a hs; replace hs := hs.rms [25]
 refine c_done ⟨bl_of hbq hbc, ?_⟩
 clear hbc hbq
 refine c_seg ?_
 refine c_end ?_
 intro wq hbq
 replace hw := hw.behind hbq
 have hbc := Below.refl wq.heap.size wq
 obtain ⟨⟨t29, t30⟩, hx31, H⟩ := bind_some H
 refine p_call hs (by rfl) (rivetlaw06_made.calls Aa23 cc24 t21 (⟨a1.S, a1.PC.tmod 80, a1.In⟩ : Srivetlaw06_Set) A1_1 c1_1 (t29, t30) _ (Rd.of_own (hw.up 0)) (hr1_1.old hw) hx31) ?_
 rintro e wd34 ⟨Aa32, Aa33, rfl, hw35⟩
 refine ⟨_, rfl, ?_⟩
 replace hbc := hw35.below
 replace hw := hw.call hw35
 clear hs; intro a hs; replace hs := hs.rms [26, 27]
 refine c_done ⟨bl_of hbq hbc, ?_⟩
 clear hbc hbq
 refine c_last ?_
 refine c_pvs [4, 5, 6, 7, 8] [] [28] [(8, .pointer Aa32)] hs ?_; clear hs; intro a hs
 refine c_end ?_
 intro wq hbq
 replace hw := hw.behind hbq
 refine hK19 _ _ ?_
 refine go_seq_k fun K38 hK38 => ?_
 refine c_region [(true, [0, 2], 1), (true, [], 3)] [4, 5, 6, 7, 8] (by kernel_rfl) (by kernel_rfl) (fun c a d v w h => by cases d <;> exact h) ?_
 refine c_seg ?_
 refine c_pvs [0] [2] [] [(32, .slice A0 l0.length c0)] hs ?_; clear hs; intro a hs
 refine c_run hs (by rfl) (fun wx hbx => (x_blds (g := g2) (o := 0) (p := (⟨g2, 0, none⟩ : Addr)) (vs := [.int .u32 (vx 0 a1.S.R 0), .int .u32 (vx 0 a1.S.R 1), .int .u32 (vx 0 a1.S.R 2), .int .u32 (vx 0 a1.S.R 3), .int .u32 (vx 0 a1.S.R 4), .int .u32 (vx 0 a1.S.R 5), .int .u32 (vx 0 a1.S.R 6), .int .u32 (vx 0 a1.S.R 7), .int .u32 (vx 0 a1.S.R 8), .int .u32 (vx 0 a1.S.R 9), .int .u32 (vx 0 a1.S.R 10), .int .u32 (vx 0 a1.S.R 11), .int .u32 (vx 0 a1.S.R 12), .int .u32 (vx 0 a1.S.R 13), .int .u32 (vx 0 a1.S.R 14), .int .u32 (vx 0 a1.S.R 15), .int .u32 a1.S.H, .bool a1.S.N, .bool a1.S.Z, .bool a1.S.C, .bool a1.S.V, .int .u32 (a1.PC.tmod 80), .slice A1_1 a1.In.length c1_1]) ((hw.behind hbx).up 3))) [] ?_; clear hs; intro a hs
 refine c_end ?_
 intro wq hbq
 replace hw := hw.behind hbq
 have hbc := Below.refl wq.heap.size wq
 obtain ⟨t40, hx41, H⟩ := bind_some H
 refine p_call hs (by rfl) (rivetlaw06_fit.calls A0 c0 l0 t40 _ (hr0.old hw) hx41) ?_
 rintro e wd44 ⟨Aa42, cc43, rfl, hw45⟩
 refine ⟨_, rfl, ?_⟩
 replace hbc := hw45.below
 replace hw := hw.call hw45
 clear hs; intro a hs; replace hs := hs.rms [32]
 refine c_done ⟨bl_of hbq hbc, ?_⟩
 clear hbc hbq
 refine c_seg ?_
 refine c_end ?_
 intro wq hbq
 replace hw := hw.behind hbq
 have hbc := Below.refl wq.heap.size wq
 obtain ⟨⟨t48, t49⟩, hx50, H⟩ := bind_some H
 refine p_call hs (by rfl) (rivetlaw06_made.calls Aa42 cc43 t40 (⟨a1.S, a1.PC.tmod 80, a1.In⟩ : Srivetlaw06_Set) A1_1 c1_1 (t48, t49) _ (Rd.of_own (hw.up 0)) (hr1_1.old hw) hx50) ?_
 rintro e wd53 ⟨Aa51, Aa52, rfl, hw54⟩
 refine ⟨_, rfl, ?_⟩
 replace hbc := hw54.below
 replace hw := hw.call hw54
 clear hs; intro a hs; replace hs := hs.rms [33, 34]
 refine c_done ⟨bl_of hbq hbc, ?_⟩
 clear hbc hbq
 refine c_last ?_
 refine c_pvs [4, 5, 6, 7, 8] [] [35] [(10, .pointer Aa51)] hs ?_; clear hs; intro a hs
 refine c_end ?_
 intro wq hbq
 replace hw := hw.behind hbq
 refine hK38 _ _ ?_
 refine go_seq_k fun K57 hK57 => ?_
 refine c_region [(true, [0, 2], 1), (true, [], 3)] [4, 5, 6, 7, 8] (by kernel_rfl) (by kernel_rfl) (fun c a d v w h => by cases d <;> exact h) ?_
 refine c_seg ?_
 refine c_pvs [0] [2] [0] [(39, .slice A0 l0.length c0)] hs ?_; clear hs; intro a hs
 refine c_run hs (by rfl) (fun wx hbx => (x_blds (g := g2) (o := 0) (p := (⟨g2, 0, none⟩ : Addr)) (vs := [.int .u32 (vx 0 a1.S.R 0), .int .u32 (vx 0 a1.S.R 1), .int .u32 (vx 0 a1.S.R 2), .int .u32 (vx 0 a1.S.R 3), .int .u32 (vx 0 a1.S.R 4), .int .u32 (vx 0 a1.S.R 5), .int .u32 (vx 0 a1.S.R 6), .int .u32 (vx 0 a1.S.R 7), .int .u32 (vx 0 a1.S.R 8), .int .u32 (vx 0 a1.S.R 9), .int .u32 (vx 0 a1.S.R 10), .int .u32 (vx 0 a1.S.R 11), .int .u32 (vx 0 a1.S.R 12), .int .u32 (vx 0 a1.S.R 13), .int .u32 (vx 0 a1.S.R 14), .int .u32 (vx 0 a1.S.R 15), .int .u32 a1.S.H, .bool a1.S.N, .bool a1.S.Z, .bool a1.S.C, .bool a1.S.V, .int .u32 (a1.PC.tmod 80), .slice A1_1 a1.In.length c1_1]) ((hw.behind hbx).up 6))) [4] ?_; clear hs; intro a hs
 refine c_end ?_
 intro wq hbq
 replace hw := hw.behind hbq
 have hbc := Below.refl wq.heap.size wq
 obtain ⟨t59, hx60, H⟩ := bind_some H
 refine p_call hs (by rfl) (rivetlaw06_fit.calls A0 c0 l0 t59 _ (hr0.old hw) hx60) ?_
 rintro e wd63 ⟨Aa61, cc62, rfl, hw64⟩
 refine ⟨_, rfl, ?_⟩
 replace hbc := hw64.below
 replace hw := hw.call hw64
 clear hs; intro a hs; replace hs := hs.rms [39]
 refine c_done ⟨bl_of hbq hbc, ?_⟩
 clear hbc hbq
 refine c_seg ?_
 refine c_end ?_
 intro wq hbq
 replace hw := hw.behind hbq
 have hbc := Below.refl wq.heap.size wq
 obtain ⟨⟨t67, t68⟩, hx69, H⟩ := bind_some H
 refine p_call hs (by rfl) (rivetlaw06_made.calls Aa61 cc62 t59 (⟨a1.S, a1.PC.tmod 80, a1.In⟩ : Srivetlaw06_Set) A1_1 c1_1 (t67, t68) _ (Rd.of_own (hw.up 0)) (hr1_1.old hw) hx69) ?_
 rintro e wd72 ⟨Aa70, Aa71, rfl, hw73⟩
 refine ⟨_, rfl, ?_⟩
 replace hbc := hw73.below
 replace hw := hw.call hw73
 clear hs; intro a hs; replace hs := hs.rms [40, 41]
 refine c_done ⟨bl_of hbq hbc, ?_⟩
 clear hbc hbq
 refine c_last ?_
 refine c_pvs [4, 5, 6, 7, 8] [] [42] [(12, .pointer Aa70)] hs ?_; clear hs; intro a hs
 refine c_end ?_
 intro wq hbq
 replace hw := hw.behind hbq
 refine hK57 _ _ ?_
 refine go_seq_k fun K76 hK76 => ?_
 have hJ2 : ∀ (Aa102 : Option Addr) (x103 : Option Smachine_Machine) (Aa105 : Option Addr) (x106 : Option Smachine_Machine) (Aa108 : Option Addr) (x109 : Option Smachine_Machine) (a : Act) (w : World), Slots a 161 [(5, .pointer (some ad6)), (8, .pointer Aa102), (10, .pointer Aa105), (12, .pointer Aa108)] → St [] w0 w [oM mSrivetref06_Machine Aa71 t68, own 23 (eI .u32) Aa61 cc62 t59, oM mSrivetref06_Machine Aa52 t49, own 23 (eI .u32) Aa42 cc43 t40, oM mSrivetref06_Machine Aa33 t30, own 23 (eI .u32) Aa23 cc24 t21, box g2 28 (eSapi_Regs.enc a1.S ++ [.int .u32 (a1.PC.tmod 80), .slice A1_1 a1.In.length c1_1]), own 60 eA60 (some ad6) 1 [a2], oM mSmachine_Machine Aa102 x103, oM mSmachine_Machine Aa105 x106, oM mSmachine_Machine Aa108 x109] → rivetlaw06_MachineRuns.j2 a2 x103 x106 x109 = some r → K76 a w := by
  intro Aa102 x103 Aa105 x106 Aa108 x109 a w hs hw H
  unfold rivetlaw06_MachineRuns.j2 at H
  refine hK76 _ _ ?_
  refine go_sk fun K110 hK110 => ?_
  refine go_run hs (by rfl) (x_vidx (e := 59) (p := ad6) (n := 2) (k := .i64) (i := 0) (sz := 1) (⟨by decide, by decide⟩ : (0 : Int) ≤ 0 ∧ (0 : Int) < ((2 : Nat) : Int))) [] ?_; clear hs; intro a hs
  refine go_run hs (by rfl) (x_ld (off := 0) (p := (ad6 : Addr).add ((0 : Int).toNat * 1)) (v := .int .i8 (vx 0 a2 0)) (Rd.of_own (hw.up 7)) (one_ok a2) (by simp only [add_add', Int.toNat_zero, Nat.zero_mul, Nat.zero_add, Nat.mul_one] <;> rfl)) [59] ?_; clear hs; intro a hs
  refine go_pvs 5 [60] [(14, .int .i64 (band .i64 (w64 (vx 0 a2 0)) 63))] hs ?_; clear hs; intro a hs
  obtain ⟨y111, hy111, H⟩ := nm_some H
  replace hs : Slots a 161 [(5, .pointer (some ad6)), (8, .pointer Aa102), (10, .pointer Aa105), (12, .pointer Aa108), (14, .int .i64 y111)] := by rw [hy111]; exact hs.kx
  refine go_end (hK110 _ _ ?_)
  refine go_sk fun K112 hK112 => ?_
  refine go_run hs (by rfl) (x_vidx (e := 59) (p := ad6) (n := 2) (k := .i64) (i := 1) (sz := 1) (⟨by decide, by decide⟩ : (0 : Int) ≤ 1 ∧ (1 : Int) < ((2 : Nat) : Int))) [5] ?_; clear hs; intro a hs
  refine go_run hs (by rfl) (x_ld (off := 1) (p := (ad6 : Addr).add ((1 : Int).toNat * 1)) (v := .int .i8 (vx 0 a2 1)) (Rd.of_own (hw.up 7)) (one_ok a2) (by simp only [add_add', Int.toNat_zero, Nat.zero_mul, Nat.zero_add, Nat.mul_one] <;> rfl)) [63] ?_; clear hs; intro a hs
  refine go_pvs 5 [64] [(15, .int .i64 (band .i64 (w64 (vx 0 a2 1)) 63))] hs ?_; clear hs; intro a hs
  obtain ⟨y113, hy113, H⟩ := nm_some H
  replace hs : Slots a 161 [(8, .pointer Aa102), (10, .pointer Aa105), (12, .pointer Aa108), (14, .int .i64 y111), (15, .int .i64 y113)] := by rw [hy113]; exact hs.kx
  refine go_end (hK112 _ _ ?_)
  refine go_sk fun K114 hK114 => ?_
  refine go_pvs 2 [] [(67, .pointer Aa102), (68, .int .i64 y111)] hs ?_; clear hs; intro a hs
  obtain ⟨y115, hy116, H⟩ := bind_some H
  replace hw := hw.up 8
  replace hw := St.oM_some hw hy116
  obtain ⟨g117, hAg, hwg⟩ := mSmachine_Machine.addr hw
  clear hw; subst hAg; have hw := hwg; clear hwg
  replace hw : St [] w0 _ [mSmachine_Machine (some ⟨g117, 0, none⟩) y115, oM mSrivetref06_Machine Aa71 t68, own 23 (eI .u32) Aa61 cc62 t59, oM mSrivetref06_Machine Aa52 t49, own 23 (eI .u32) Aa42 cc43 t40, oM mSrivetref06_Machine Aa33 t30, own 23 (eI .u32) Aa23 cc24 t21, box g2 28 (eSapi_Regs.enc a1.S ++ [.int .u32 (a1.PC.tmod 80), .slice A1_1 a1.In.length c1_1]), own 60 eA60 (some ad6) 1 [a2], oM mSmachine_Machine Aa105 x106, oM mSmachine_Machine Aa108 x109] := hw
  obtain ⟨ks118, hgks118, hstks118, hbkks118⟩ := hw.lend 1
  obtain ⟨⟨t119, t120⟩, hx121, H⟩ := bind_some H
  refine go_call hs (by rfl) (machine_Machine_Run.calls ks118 (some ⟨g117, 0, none⟩) y115 y111 (t119, t120) _ hgks118 hx121) ?_
  rintro e wd122 ⟨rfl, hw123⟩
  refine ⟨_, rfl, ?_⟩
  replace hw := hbkks118 _ _ hw123
  replace hw : St [] w0 wd122 [mSmachine_Machine (some ⟨g117, 0, none⟩) t120, oM mSrivetref06_Machine Aa71 t68, own 23 (eI .u32) Aa61 cc62 t59, oM mSrivetref06_Machine Aa52 t49, own 23 (eI .u32) Aa42 cc43 t40, oM mSrivetref06_Machine Aa33 t30, own 23 (eI .u32) Aa23 cc24 t21, box g2 28 (eSapi_Regs.enc a1.S ++ [.int .u32 (a1.PC.tmod 80), .slice A1_1 a1.In.length c1_1]), own 60 eA60 (some ad6) 1 [a2], oM mSmachine_Machine Aa105 x106, oM mSmachine_Machine Aa108 x109] := hw
  clear hs; intro a hs; replace hs := hs.rms [67, 68, 69]
  refine go_end (hK114 _ _ ?_)
  refine go_sk fun K124 hK124 => ?_
  refine go_pvs 2 [] [(70, .pointer (some (⟨g117, 0, none⟩ : Addr))), (71, .int .i64 y113)] hs ?_; clear hs; intro a hs
  obtain ⟨ks125, hgks125, hstks125, hbkks125⟩ := hw.lend 1
  obtain ⟨⟨t126, t127⟩, hx128, H⟩ := bind_some H
  refine go_call hs (by rfl) (machine_Machine_Run.calls ks125 (some ⟨g117, 0, none⟩) t120 y113 (t126, t127) _ hgks125 hx128) ?_
  rintro e wd129 ⟨rfl, hw130⟩
  refine ⟨_, rfl, ?_⟩
  replace hw := hbkks125 _ _ hw130
  replace hw : St [] w0 wd129 [mSmachine_Machine (some ⟨g117, 0, none⟩) t127, oM mSrivetref06_Machine Aa71 t68, own 23 (eI .u32) Aa61 cc62 t59, oM mSrivetref06_Machine Aa52 t49, own 23 (eI .u32) Aa42 cc43 t40, oM mSrivetref06_Machine Aa33 t30, own 23 (eI .u32) Aa23 cc24 t21, box g2 28 (eSapi_Regs.enc a1.S ++ [.int .u32 (a1.PC.tmod 80), .slice A1_1 a1.In.length c1_1]), own 60 eA60 (some ad6) 1 [a2], oM mSmachine_Machine Aa105 x106, oM mSmachine_Machine Aa108 x109] := hw
  clear hs; intro a hs; replace hs := hs.rms [70, 71]
  refine go_pvs 4 [72] [(16, .int .i64 t126)] hs ?_; clear hs; intro a hs
  refine go_end (hK124 _ _ ?_)
  refine go_sk fun K131 hK131 => ?_
  refine go_pvs 4 [] [(73, .pointer Aa105), (76, .int .i64 (w64 (y111 + y113)))] hs ?_; clear hs; intro a hs
  obtain ⟨y132, hy133, H⟩ := bind_some H
  replace hw := hw.up 9
  replace hw := St.oM_some hw hy133
  obtain ⟨g134, hAg, hwg⟩ := mSmachine_Machine.addr hw
  clear hw; subst hAg; have hw := hwg; clear hwg
  replace hw : St [] w0 _ [mSmachine_Machine (some ⟨g134, 0, none⟩) y132, mSmachine_Machine (some ⟨g117, 0, none⟩) t127, oM mSrivetref06_Machine Aa71 t68, own 23 (eI .u32) Aa61 cc62 t59, oM mSrivetref06_Machine Aa52 t49, own 23 (eI .u32) Aa42 cc43 t40, oM mSrivetref06_Machine Aa33 t30, own 23 (eI .u32) Aa23 cc24 t21, box g2 28 (eSapi_Regs.enc a1.S ++ [.int .u32 (a1.PC.tmod 80), .slice A1_1 a1.In.length c1_1]), own 60 eA60 (some ad6) 1 [a2], oM mSmachine_Machine Aa108 x109] := hw
  obtain ⟨ks135, hgks135, hstks135, hbkks135⟩ := hw.lend 1
  obtain ⟨⟨t136, t137⟩, hx138, H⟩ := bind_some H
  refine go_call hs (by rfl) (machine_Machine_Run.calls ks135 (some ⟨g134, 0, none⟩) y132 (w64 (y111 + y113)) (t136, t137) _ hgks135 hx138) ?_
  rintro e wd139 ⟨rfl, hw140⟩
  refine ⟨_, rfl, ?_⟩
  replace hw := hbkks135 _ _ hw140
  replace hw : St [] w0 wd139 [mSmachine_Machine (some ⟨g134, 0, none⟩) t137, mSmachine_Machine (some ⟨g117, 0, none⟩) t127, oM mSrivetref06_Machine Aa71 t68, own 23 (eI .u32) Aa61 cc62 t59, oM mSrivetref06_Machine Aa52 t49, own 23 (eI .u32) Aa42 cc43 t40, oM mSrivetref06_Machine Aa33 t30, own 23 (eI .u32) Aa23 cc24 t21, box g2 28 (eSapi_Regs.enc a1.S ++ [.int .u32 (a1.PC.tmod 80), .slice A1_1 a1.In.length c1_1]), own 60 eA60 (some ad6) 1 [a2], oM mSmachine_Machine Aa108 x109] := hw
  clear hs; intro a hs; replace hs := hs.rms [73, 76]
  refine go_pvs 6 [77] [(17, .int .i64 t136)] hs ?_; clear hs; intro a hs
  refine go_end (hK131 _ _ ?_)
  refine go_seq_k fun K141 hK141 => ?_
  refine go_sp [] [(18, .int .i64 0)] hs ?_; clear hs; intro a hs
  refine wp_block ?_
  obtain ⟨y143, hy144, H⟩ := bind_some H
  replace hw := hw.up 10
  replace hw := St.oM_some hw hy144
  obtain ⟨g145, hAg, hwg⟩ := mSmachine_Machine.addr hw
  clear hw; subst hAg; have hw := hwg; clear hwg
  replace hw : St [] w0 _ [mSmachine_Machine (some ⟨g145, 0, none⟩) y143, mSmachine_Machine (some ⟨g134, 0, none⟩) t137, mSmachine_Machine (some ⟨g117, 0, none⟩) t127, oM mSrivetref06_Machine Aa71 t68, own 23 (eI .u32) Aa61 cc62 t59, oM mSrivetref06_Machine Aa52 t49, own 23 (eI .u32) Aa42 cc43 t40, oM mSrivetref06_Machine Aa33 t30, own 23 (eI .u32) Aa23 cc24 t21, box g2 28 (eSapi_Regs.enc a1.S ++ [.int .u32 (a1.PC.tmod 80), .slice A1_1 a1.In.length c1_1]), own 60 eA60 (some ad6) 1 [a2]] := hw
  obtain ⟨e146, hl146, HX146⟩ := bind_some H
  have hJ3 : ∀ (v160 : Smachine_Machine) (a : Act) (w : World), Slots a 161 [(8, .pointer (some (⟨g117, 0, none⟩ : Addr))), (10, .pointer (some (⟨g134, 0, none⟩ : Addr))), (12, .pointer (some (⟨g145, 0, none⟩ : Addr))), (16, .int .i64 t126), (17, .int .i64 t136)] → St [] w0 w [mSmachine_Machine (some ⟨g145, 0, none⟩) v160, mSmachine_Machine (some ⟨g134, 0, none⟩) t137, mSmachine_Machine (some ⟨g117, 0, none⟩) t127, oM mSrivetref06_Machine Aa71 t68, own 23 (eI .u32) Aa61 cc62 t59, oM mSrivetref06_Machine Aa52 t49, own 23 (eI .u32) Aa42 cc43 t40, oM mSrivetref06_Machine Aa33 t30, own 23 (eI .u32) Aa23 cc24 t21, box g2 28 (eSapi_Regs.enc a1.S ++ [.int .u32 (a1.PC.tmod 80), .slice A1_1 a1.In.length c1_1]), own 60 eA60 (some ad6) 1 [a2]] → rivetlaw06_MachineRuns.j3 t136 t126 t127 t137 v160 = some r → K141 a w := by
   intro v160 a w hs hw H
   unfold rivetlaw06_MachineRuns.j3 at H
   refine hK141 _ _ ?_
   refine go_seq_k fun K161 hK161 => ?_
   have hJ5 : ∀ (v188 : Smachine_Machine) (a : Act) (w : World), Slots a 161 [(8, .pointer (some (⟨g117, 0, none⟩ : Addr))), (10, .pointer (some (⟨g134, 0, none⟩ : Addr))), (12, .pointer (some (⟨g145, 0, none⟩ : Addr)))] → St [] w0 w [mSmachine_Machine (some ⟨g145, 0, none⟩) v188, mSmachine_Machine (some ⟨g134, 0, none⟩) t137, mSmachine_Machine (some ⟨g117, 0, none⟩) t127, oM mSrivetref06_Machine Aa71 t68, own 23 (eI .u32) Aa61 cc62 t59, oM mSrivetref06_Machine Aa52 t49, own 23 (eI .u32) Aa42 cc43 t40, oM mSrivetref06_Machine Aa33 t30, own 23 (eI .u32) Aa23 cc24 t21, box g2 28 (eSapi_Regs.enc a1.S ++ [.int .u32 (a1.PC.tmod 80), .slice A1_1 a1.In.length c1_1]), own 60 eA60 (some ad6) 1 [a2]] → rivetlaw06_MachineRuns.j5 t127 t137 v188 = some r → K161 a w := by
    intro v188 a w hs hw H
    unfold rivetlaw06_MachineRuns.j5 at H
    refine hK161 _ _ ?_
    refine go_seq_k fun K189 hK189 => ?_
    have hJ6 : ∀ (v321 : Bool) (a : Act) (w : World), Slots a 161 [(6, .bool v321)] → St [] w0 w [mSmachine_Machine (some ⟨g145, 0, none⟩) v188, mSmachine_Machine (some ⟨g134, 0, none⟩) t137, mSmachine_Machine (some ⟨g117, 0, none⟩) t127, oM mSrivetref06_Machine Aa71 t68, own 23 (eI .u32) Aa61 cc62 t59, oM mSrivetref06_Machine Aa52 t49, own 23 (eI .u32) Aa42 cc43 t40, oM mSrivetref06_Machine Aa33 t30, own 23 (eI .u32) Aa23 cc24 t21, box g2 28 (eSapi_Regs.enc a1.S ++ [.int .u32 (a1.PC.tmod 80), .slice A1_1 a1.In.length c1_1]), own 60 eA60 (some ad6) 1 [a2]] → rivetlaw06_MachineRuns.j6 v321 = some r → K189 a w := by
     intro v321 a w hs hw H
     unfold rivetlaw06_MachineRuns.j6 at H
     refine hK189 _ _ ?_
     refine wp_ret ?_
     obtain rfl := Option.some.inj H
     refine ret1 (t := 6) (v := .bool v321) hs (by kernel_rfl) (by kernel_rfl) ?_
     exact ⟨rfl, hw.only 0⟩
    refine c_region [(true, [0, 2], 1), (true, [], 3), (true, [4, 5, 6, 8], 7), (true, [], 9), (true, [10, 11, 12, 13, 15], 14), (true, [], 16), (true, [17, 18, 19, 20, 22], 21), (true, [], 23), (true, [24, 25, 26, 27, 29], 28), (true, [], 30), (true, [], 31), (true, [32, 33, 34, 35, 36, 37, 39, 40, 41, 42], 38), (true, [], 43), (true, [], 44), (true, [45, 46, 47, 49], 48), (true, [], 50), (true, [], 51)] [52, 53] (by kernel_rfl) (by kernel_rfl) (fun c a d v w h => by cases d <;> exact h) ?_
    refine c_seg ?_
    refine c_pvs [0, 2] [] [] [(108, .pointer (some (⟨g117, 0, none⟩ : Addr))), (110, .pointer (some (⟨g134, 0, none⟩ : Addr)))] hs ?_; clear hs; intro a hs
    refine c_end ?_
    intro wq hbq
    replace hw := hw.behind hbq
    have hbc := Below.refl wq.heap.size wq
    obtain ⟨t191, hx192, H⟩ := bind_some H
    refine p_call hs (by rfl) (machine_Machine_PC.calls (some ⟨g117, 0, none⟩) t127 t191 _ (rSmachine_Machine.of_m (hw.up 2)) hx192) ?_
    rintro e wd193 ⟨rfl, hw194⟩
    refine ⟨_, rfl, ?_⟩
    replace hbc := hw194.below
    replace hw := hw.call hw194
    clear hs; intro a hs; replace hs := hs.rms [108]
    refine c_done ⟨bl_of hbq hbc, ?_⟩
    clear hbc hbq
    refine c_seg ?_
    refine c_end ?_
    intro wq hbq
    replace hw := hw.behind hbq
    have hbc := Below.refl wq.heap.size wq
    obtain ⟨t196, hx197, H⟩ := bind_some H
    refine p_call hs (by rfl) (machine_Machine_PC.calls (some ⟨g134, 0, none⟩) t137 t196 _ (rSmachine_Machine.of_m (hw.up 1)) hx197) ?_
    rintro e wd198 ⟨rfl, hw199⟩
    refine ⟨_, rfl, ?_⟩
    replace hbc := hw199.below
    replace hw := hw.call hw199
    clear hs; intro a hs; replace hs := hs.rms [110]
    refine c_done ⟨bl_of hbq hbc, ?_⟩
    clear hbc hbq
    refine c_seg ?_
    refine c_pvs [4, 5] [6, 8] [109, 111] [(113, .bool (t191 == t196))] hs ?_; clear hs; intro a hs
    cases hb200 : (t191 == t196)
    ·replace H := ite_f H (beq_eq_false_iff_ne.1 hb200)
     rw [hb200] at hs
     refine c_pvs [6, 8] [] [] [(114, undef), (116, undef)] hs ?_; clear hs; intro a hs
     refine c_end ?_
     intro wq hbq
     replace hw := hw.behind hbq
     have hbc := Below.refl wq.heap.size wq
     refine p_pvs [7] [] [114] [(115, undef)] hs ?_; clear hs; intro a hs
     refine c_done ⟨bl_of hbq hbc, ?_⟩
     clear hbc hbq
     refine c_seg ?_
     refine c_end ?_
     intro wq hbq
     replace hw := hw.behind hbq
     have hbc := Below.refl wq.heap.size wq
     refine p_pvs [9] [] [116] [(117, undef)] hs ?_; clear hs; intro a hs
     refine c_done ⟨bl_of hbq hbc, ?_⟩
     clear hbc hbq
     refine c_seg ?_
     refine c_pvs [10, 11, 12, 13, 15] [] [113, 115, 117] [(120, .bool false), (121, undef), (123, undef)] hs ?_; clear hs; intro a hs
     refine c_end ?_
     intro wq hbq
     replace hw := hw.behind hbq
     have hbc := Below.refl wq.heap.size wq
     refine p_pvs [14] [] [121] [(122, undef)] hs ?_; clear hs; intro a hs
     refine c_done ⟨bl_of hbq hbc, ?_⟩
     clear hbc hbq
     refine c_seg ?_
     refine c_end ?_
     intro wq hbq
     replace hw := hw.behind hbq
     have hbc := Below.refl wq.heap.size wq
     refine p_pvs [16] [] [123] [(124, undef)] hs ?_; clear hs; intro a hs
     refine c_done ⟨bl_of hbq hbc, ?_⟩
     clear hbc hbq
     refine c_seg ?_
     refine c_pvs [17, 18, 19, 20, 22] [] [120, 122, 124] [(127, .bool false), (128, undef), (130, undef)] hs ?_; clear hs; intro a hs
     refine c_end ?_
     intro wq hbq
     replace hw := hw.behind hbq
     have hbc := Below.refl wq.heap.size wq
     refine p_pvs [21] [] [128] [(129, undef)] hs ?_; clear hs; intro a hs
     refine c_done ⟨bl_of hbq hbc, ?_⟩
     clear hbc hbq
     refine c_seg ?_
     refine c_end ?_
     intro wq hbq
     replace hw := hw.behind hbq
     have hbc := Below.refl wq.heap.size wq
     refine p_pvs [23] [] [130] [(131, undef)] hs ?_; clear hs; intro a hs
     refine c_done ⟨bl_of hbq hbc, ?_⟩
     clear hbc hbq
     refine c_seg ?_
     refine c_pvs [24, 25, 26, 27, 29] [] [127, 129, 131] [(134, .bool false), (135, undef), (137, undef)] hs ?_; clear hs; intro a hs
     refine c_end ?_
     intro wq hbq
     replace hw := hw.behind hbq
     have hbc := Below.refl wq.heap.size wq
     refine p_pvs [28] [] [135] [(136, undef)] hs ?_; clear hs; intro a hs
     refine c_done ⟨bl_of hbq hbc, ?_⟩
     clear hbc hbq
     refine c_seg ?_
     refine c_end ?_
     intro wq hbq
     replace hw := hw.behind hbq
     have hbc := Below.refl wq.heap.size wq
     refine p_pvs [30] [] [137] [(138, undef)] hs ?_; clear hs; intro a hs
     refine c_done ⟨bl_of hbq hbc, ?_⟩
     clear hbc hbq
     refine c_seg ?_
     refine c_end ?_
     intro wq hbq
     replace hw := hw.behind hbq
     have hbc := Below.refl wq.heap.size wq
     refine p_pvs [31] [] [136, 138] [(139, undef)] hs ?_; clear hs; intro a hs
     refine c_done ⟨bl_of hbq hbc, ?_⟩
     clear hbc hbq
     refine c_seg ?_
     refine c_pvs [32, 33, 34, 35, 36, 37, 39, 40, 41, 42] [] [8, 134, 139] [(141, .bool false), (145, undef), (150, undef)] hs ?_; clear hs; intro a hs
     refine c_end ?_
     intro wq hbq
     replace hw := hw.behind hbq
     have hbc := Below.refl wq.heap.size wq
     refine p_pvs [38] [] [145] [(146, undef)] hs ?_; clear hs; intro a hs
     refine c_done ⟨bl_of hbq hbc, ?_⟩
     clear hbc hbq
     refine c_seg ?_
     refine c_end ?_
     intro wq hbq
     replace hw := hw.behind hbq
     have hbc := Below.refl wq.heap.size wq
     refine p_pvs [43] [] [150] [(151, undef)] hs ?_; clear hs; intro a hs
     refine c_done ⟨bl_of hbq hbc, ?_⟩
     clear hbc hbq
     refine c_seg ?_
     refine c_end ?_
     intro wq hbq
     replace hw := hw.behind hbq
     have hbc := Below.refl wq.heap.size wq
     refine p_pvs [44] [] [146, 151] [(152, undef)] hs ?_; clear hs; intro a hs
     refine c_done ⟨bl_of hbq hbc, ?_⟩
     clear hbc hbq
     refine c_seg ?_
     refine c_pvs [45, 46, 47, 49] [] [10, 12, 141, 152] [(154, .bool false), (155, undef), (157, undef)] hs ?_; clear hs; intro a hs
     refine c_end ?_
     intro wq hbq
     replace hw := hw.behind hbq
     have hbc := Below.refl wq.heap.size wq
     refine p_pvs [48] [] [155] [(156, undef)] hs ?_; clear hs; intro a hs
     refine c_done ⟨bl_of hbq hbc, ?_⟩
     clear hbc hbq
     refine c_seg ?_
     refine c_end ?_
     intro wq hbq
     replace hw := hw.behind hbq
     have hbc := Below.refl wq.heap.size wq
     refine p_pvs [50] [] [157] [(158, undef)] hs ?_; clear hs; intro a hs
     refine c_done ⟨bl_of hbq hbc, ?_⟩
     clear hbc hbq
     refine c_seg ?_
     refine c_end ?_
     intro wq hbq
     replace hw := hw.behind hbq
     have hbc := Below.refl wq.heap.size wq
     refine p_pvs [51] [] [156, 158] [(159, undef)] hs ?_; clear hs; intro a hs
     replace hs : Slots a 161 [(154, .bool false), (159, undef)] := hs.kx
     refine c_done ⟨bl_of hbq hbc, ?_⟩
     clear hbc hbq
     refine c_last ?_
     refine c_pvs [52, 53] [] [154, 159] [(6, .bool false)] hs ?_; clear hs; intro a hs
     refine c_end ?_
     intro wq hbq
     replace hw := hw.behind hbq
     replace hw := hw.up 10
     replace hw := hw.up 10
     replace hw := hw.up 10
     replace hw := hw.up 10
     replace hw := hw.up 10
     replace hw := hw.up 10
     replace hw := hw.up 10
     replace hw := hw.up 10
     replace hw := hw.up 10
     replace hw := hw.up 10
     replace hw := hw.up 10
     exact hJ6 false _ _ hs.kx hw H
    ·replace H := ite_t H (beq_iff_eq.1 hb200)
     rw [hb200] at hs
     refine c_pvs [6, 8] [] [] [(114, .pointer (some (⟨g117, 0, none⟩ : Addr))), (116, .pointer (some (⟨g134, 0, none⟩ : Addr)))] hs ?_; clear hs; intro a hs
     refine c_end ?_
     intro wq hbq
     replace hw := hw.behind hbq
     have hbc := Below.refl wq.heap.size wq
     obtain ⟨t202, hx203, H⟩ := bind_some H
     refine p_call hs (by rfl) (machine_Machine_Regs.calls (some ⟨g117, 0, none⟩) t127 t202 _ (rSmachine_Machine.of_m (hw.up 2)) hx203) ?_
     rintro e wd204 ⟨rfl, hw205⟩
     refine ⟨_, rfl, ?_⟩
     replace hbc := hw205.below
     replace hw := hw.call hw205
     clear hs; intro a hs; replace hs := hs.rms [114]
     refine c_done ⟨bl_of hbq hbc, ?_⟩
     clear hbc hbq
     refine c_seg ?_
     refine c_end ?_
     intro wq hbq
     replace hw := hw.behind hbq
     have hbc := Below.refl wq.heap.size wq
     obtain ⟨t207, hx208, H⟩ := bind_some H
     refine p_call hs (by rfl) (machine_Machine_Regs.calls (some ⟨g134, 0, none⟩) t137 t207 _ (rSmachine_Machine.of_m (hw.up 1)) hx208) ?_
     rintro e wd209 ⟨rfl, hw210⟩
     refine ⟨_, rfl, ?_⟩
     replace hbc := hw210.below
     replace hw := hw.call hw210
     clear hs; intro a hs; replace hs := hs.rms [116]
     refine c_done ⟨bl_of hbq hbc, ?_⟩
     clear hbc hbq
     refine c_seg ?_
     refine c_run hs (by rfl) (fun wx hbx => (x_eql (xs := (eSapi_Regs.enc t202).toArray) (ys := (eSapi_Regs.enc t207).toArray) (r := ((decide (t202.R = t207.R)) && ((t202.H == t207.H) && ((t202.N == t207.N) && ((t202.Z == t207.Z) && ((t202.C == t207.C) && ((t202.V == t207.V) && true))))))) (by kernel_rfl) (by kernel_rfl) (by kernel_rfl) (eq_struct Try.underlying26 (by kernel_rfl) (eq_cons (a := .agg (eA24.enc t202.R).toArray) (b := .agg (eA24.enc t207.R).toArray) (r := (decide (t202.R = t207.R))) (s := ((t202.H == t207.H) && ((t202.N == t207.N) && ((t202.Z == t207.Z) && ((t202.C == t207.C) && ((t202.V == t207.V) && true)))))) (by kernel_rfl) (part_pv (by kernel_rfl)) (part_pv (by kernel_rfl)) (eq_vec (e := 23) (k' := .u32) (k := .u32) t202.R t207.R (by kernel_rfl) (by kernel_rfl) (by kernel_rfl) (by kernel_rfl) (by kernel_rfl)) (eq_cons (a := .int .u32 t202.H) (b := .int .u32 t207.H) (r := (t202.H == t207.H)) (s := ((t202.N == t207.N) && ((t202.Z == t207.Z) && ((t202.C == t207.C) && ((t202.V == t207.V) && true))))) (by kernel_rfl) (part_pv (by kernel_rfl)) (part_pv (by kernel_rfl)) (eq_pv (by kernel_rfl)) (eq_cons (a := .bool t202.N) (b := .bool t207.N) (r := (t202.N == t207.N)) (s := ((t202.Z == t207.Z) && ((t202.C == t207.C) && ((t202.V == t207.V) && true)))) (by kernel_rfl) (part_pv (by kernel_rfl)) (part_pv (by kernel_rfl)) (eq_pv (by kernel_rfl)) (eq_cons (a := .bool t202.Z) (b := .bool t207.Z) (r := (t202.Z == t207.Z)) (s := ((t202.C == t207.C) && ((t202.V == t207.V) && true))) (by kernel_rfl) (part_pv (by kernel_rfl)) (part_pv (by kernel_rfl)) (eq_pv (by kernel_rfl)) (eq_cons (a := .bool t202.C) (b := .bool t207.C) (r := (t202.C == t207.C)) (s := ((t202.V == t207.V) && true)) (by kernel_rfl) (part_pv (by kernel_rfl)) (part_pv (by kernel_rfl)) (eq_pv (by kernel_rfl)) (eq_cons (a := .bool t202.V) (b := .bool t207.V) (r := (t202.V == t207.V)) (s := true) (by kernel_rfl) (part_pv (by kernel_rfl)) (part_pv (by kernel_rfl)) (eq_pv (by kernel_rfl)) eq_nil))))))))) [115, 117] ?_; clear hs; intro a hs
     refine c_pvs [11, 12] [13, 15] [113, 118] [(120, .bool ((decide (t202.R = t207.R)) && ((t202.H == t207.H) && ((t202.N == t207.N) && ((t202.Z == t207.Z) && ((t202.C == t207.C) && ((t202.V == t207.V) && true)))))))] hs ?_; clear hs; intro a hs
     cases hb211 : ((decide (t202.R = t207.R)) && ((t202.H == t207.H) && ((t202.N == t207.N) && ((t202.Z == t207.Z) && ((t202.C == t207.C) && ((t202.V == t207.V) && true))))))
     ·replace H := ite_f H (ff hb211)
      rw [hb211] at hs
      refine c_pvs [13, 15] [] [] [(121, undef), (123, undef)] hs ?_; clear hs; intro a hs
      refine c_end ?_
      intro wq hbq
      replace hw := hw.behind hbq
      have hbc := Below.refl wq.heap.size wq
      refine p_pvs [14] [] [121] [(122, undef)] hs ?_; clear hs; intro a hs
      refine c_done ⟨bl_of hbq hbc, ?_⟩
      clear hbc hbq
      refine c_seg ?_
      refine c_end ?_
      intro wq hbq
      replace hw := hw.behind hbq
      have hbc := Below.refl wq.heap.size wq
      refine p_pvs [16] [] [123] [(124, undef)] hs ?_; clear hs; intro a hs
      refine c_done ⟨bl_of hbq hbc, ?_⟩
      clear hbc hbq
      refine c_seg ?_
      refine c_pvs [17, 18, 19, 20, 22] [] [120, 122, 124] [(127, .bool false), (128, undef), (130, undef)] hs ?_; clear hs; intro a hs
      refine c_end ?_
      intro wq hbq
      replace hw := hw.behind hbq
      have hbc := Below.refl wq.heap.size wq
      refine p_pvs [21] [] [128] [(129, undef)] hs ?_; clear hs; intro a hs
      refine c_done ⟨bl_of hbq hbc, ?_⟩
      clear hbc hbq
      refine c_seg ?_
      refine c_end ?_
      intro wq hbq
      replace hw := hw.behind hbq
      have hbc := Below.refl wq.heap.size wq
      refine p_pvs [23] [] [130] [(131, undef)] hs ?_; clear hs; intro a hs
      refine c_done ⟨bl_of hbq hbc, ?_⟩
      clear hbc hbq
      refine c_seg ?_
      refine c_pvs [24, 25, 26, 27, 29] [] [127, 129, 131] [(134, .bool false), (135, undef), (137, undef)] hs ?_; clear hs; intro a hs
      refine c_end ?_
      intro wq hbq
      replace hw := hw.behind hbq
      have hbc := Below.refl wq.heap.size wq
      refine p_pvs [28] [] [135] [(136, undef)] hs ?_; clear hs; intro a hs
      refine c_done ⟨bl_of hbq hbc, ?_⟩
      clear hbc hbq
      refine c_seg ?_
      refine c_end ?_
      intro wq hbq
      replace hw := hw.behind hbq
      have hbc := Below.refl wq.heap.size wq
      refine p_pvs [30] [] [137] [(138, undef)] hs ?_; clear hs; intro a hs
      refine c_done ⟨bl_of hbq hbc, ?_⟩
      clear hbc hbq
      refine c_seg ?_
      refine c_end ?_
      intro wq hbq
      replace hw := hw.behind hbq
      have hbc := Below.refl wq.heap.size wq
      refine p_pvs [31] [] [136, 138] [(139, undef)] hs ?_; clear hs; intro a hs
      refine c_done ⟨bl_of hbq hbc, ?_⟩
      clear hbc hbq
      refine c_seg ?_
      refine c_pvs [32, 33, 34, 35, 36, 37, 39, 40, 41, 42] [] [8, 134, 139] [(141, .bool false), (145, undef), (150, undef)] hs ?_; clear hs; intro a hs
      refine c_end ?_
      intro wq hbq
      replace hw := hw.behind hbq
      have hbc := Below.refl wq.heap.size wq
      refine p_pvs [38] [] [145] [(146, undef)] hs ?_; clear hs; intro a hs
      refine c_done ⟨bl_of hbq hbc, ?_⟩
      clear hbc hbq
      refine c_seg ?_
      refine c_end ?_
      intro wq hbq
      replace hw := hw.behind hbq
      have hbc := Below.refl wq.heap.size wq
      refine p_pvs [43] [] [150] [(151, undef)] hs ?_; clear hs; intro a hs
      refine c_done ⟨bl_of hbq hbc, ?_⟩
      clear hbc hbq
      refine c_seg ?_
      refine c_end ?_
      intro wq hbq
      replace hw := hw.behind hbq
      have hbc := Below.refl wq.heap.size wq
      refine p_pvs [44] [] [146, 151] [(152, undef)] hs ?_; clear hs; intro a hs
      refine c_done ⟨bl_of hbq hbc, ?_⟩
      clear hbc hbq
      refine c_seg ?_
      refine c_pvs [45, 46, 47, 49] [] [10, 12, 141, 152] [(154, .bool false), (155, undef), (157, undef)] hs ?_; clear hs; intro a hs
      refine c_end ?_
      intro wq hbq
      replace hw := hw.behind hbq
      have hbc := Below.refl wq.heap.size wq
      refine p_pvs [48] [] [155] [(156, undef)] hs ?_; clear hs; intro a hs
      replace hs : Slots a 161 [(154, .bool false), (156, undef), (157, undef)] := hs.kx
      refine c_done ⟨bl_of hbq hbc, ?_⟩
      clear hbc hbq
      refine c_seg ?_
      refine c_end ?_
      intro wq hbq
      replace hw := hw.behind hbq
      have hbc := Below.refl wq.heap.size wq
      refine p_pvs [50] [] [157] [(158, undef)] hs ?_; clear hs; intro a hs
      refine c_done ⟨bl_of hbq hbc, ?_⟩
      clear hbc hbq
      refine c_seg ?_
      refine c_end ?_
      intro wq hbq
      replace hw := hw.behind hbq
      have hbc := Below.refl wq.heap.size wq
      refine p_pvs [51] [] [156, 158] [(159, undef)] hs ?_; clear hs; intro a hs
      refine c_done ⟨bl_of hbq hbc, ?_⟩
      clear hbc hbq
      refine c_last ?_
      refine c_pvs [52, 53] [] [154, 159] [(6, .bool false)] hs ?_; clear hs; intro a hs
      refine c_end ?_
      intro wq hbq
      replace hw := hw.behind hbq
      replace hw := hw.up 10
      replace hw := hw.up 10
      replace hw := hw.up 10
      replace hw := hw.up 10
      replace hw := hw.up 10
      replace hw := hw.up 10
      replace hw := hw.up 10
      replace hw := hw.up 10
      replace hw := hw.up 10
      replace hw := hw.up 10
      replace hw := hw.up 10
      exact hJ6 false _ _ hs.kx hw H
     ·replace H := ite_t H hb211
      rw [hb211] at hs
      refine c_pvs [13, 15] [] [] [(121, .pointer (some (⟨g117, 0, none⟩ : Addr))), (123, .pointer (some (⟨g145, 0, none⟩ : Addr)))] hs ?_; clear hs; intro a hs
      refine c_end ?_
      intro wq hbq
      replace hw := hw.behind hbq
      have hbc := Below.refl wq.heap.size wq
      obtain ⟨t213, hx214, H⟩ := bind_some H
      refine p_call hs (by rfl) (machine_Machine_PC.calls (some ⟨g117, 0, none⟩) t127 t213 _ (rSmachine_Machine.of_m (hw.up 2)) hx214) ?_
      rintro e wd215 ⟨rfl, hw216⟩
      refine ⟨_, rfl, ?_⟩
      replace hbc := hw216.below
      replace hw := hw.call hw216
      clear hs; intro a hs; replace hs := hs.rms [121]
      refine c_done ⟨bl_of hbq hbc, ?_⟩
      clear hbc hbq
      refine c_seg ?_
      refine c_end ?_
      intro wq hbq
      replace hw := hw.behind hbq
      have hbc := Below.refl wq.heap.size wq
      obtain ⟨t218, hx219, H⟩ := bind_some H
      refine p_call hs (by rfl) (machine_Machine_PC.calls (some ⟨g145, 0, none⟩) v188 t218 _ (rSmachine_Machine.of_m (hw.up 0)) hx219) ?_
      rintro e wd220 ⟨rfl, hw221⟩
      refine ⟨_, rfl, ?_⟩
      replace hbc := hw221.below
      replace hw := hw.call hw221
      clear hs; intro a hs; replace hs := hs.rms [123]
      refine c_done ⟨bl_of hbq hbc, ?_⟩
      clear hbc hbq
      refine c_seg ?_
      refine c_pvs [17, 18, 19] [20, 22] [120, 122, 124] [(127, .bool (t213 == t218))] hs ?_; clear hs; intro a hs
      cases hb222 : (t213 == t218)
      ·replace H := ite_f H (beq_eq_false_iff_ne.1 hb222)
       rw [hb222] at hs
       refine c_pvs [20, 22] [] [] [(128, undef), (130, undef)] hs ?_; clear hs; intro a hs
       refine c_end ?_
       intro wq hbq
       replace hw := hw.behind hbq
       have hbc := Below.refl wq.heap.size wq
       refine p_pvs [21] [] [128] [(129, undef)] hs ?_; clear hs; intro a hs
       refine c_done ⟨bl_of hbq hbc, ?_⟩
       clear hbc hbq
       refine c_seg ?_
       refine c_end ?_
       intro wq hbq
       replace hw := hw.behind hbq
       have hbc := Below.refl wq.heap.size wq
       refine p_pvs [23] [] [130] [(131, undef)] hs ?_; clear hs; intro a hs
       refine c_done ⟨bl_of hbq hbc, ?_⟩
       clear hbc hbq
       refine c_seg ?_
       refine c_pvs [24, 25, 26, 27, 29] [] [127, 129, 131] [(134, .bool false), (135, undef), (137, undef)] hs ?_; clear hs; intro a hs
       refine c_end ?_
       intro wq hbq
       replace hw := hw.behind hbq
       have hbc := Below.refl wq.heap.size wq
       refine p_pvs [28] [] [135] [(136, undef)] hs ?_; clear hs; intro a hs
       refine c_done ⟨bl_of hbq hbc, ?_⟩
       clear hbc hbq
       refine c_seg ?_
       refine c_end ?_
       intro wq hbq
       replace hw := hw.behind hbq
       have hbc := Below.refl wq.heap.size wq
       refine p_pvs [30] [] [137] [(138, undef)] hs ?_; clear hs; intro a hs
       refine c_done ⟨bl_of hbq hbc, ?_⟩
       clear hbc hbq
       refine c_seg ?_
       refine c_end ?_
       intro wq hbq
       replace hw := hw.behind hbq
       have hbc := Below.refl wq.heap.size wq
       refine p_pvs [31] [] [136, 138] [(139, undef)] hs ?_; clear hs; intro a hs
       refine c_done ⟨bl_of hbq hbc, ?_⟩
       clear hbc hbq
       refine c_seg ?_
       refine c_pvs [32, 33, 34, 35, 36, 37, 39, 40, 41, 42] [] [8, 134, 139] [(141, .bool false), (145, undef), (150, undef)] hs ?_; clear hs; intro a hs
       refine c_end ?_
       intro wq hbq
       replace hw := hw.behind hbq
       have hbc := Below.refl wq.heap.size wq
       refine p_pvs [38] [] [145] [(146, undef)] hs ?_; clear hs; intro a hs
       refine c_done ⟨bl_of hbq hbc, ?_⟩
       clear hbc hbq
       refine c_seg ?_
       refine c_end ?_
       intro wq hbq
       replace hw := hw.behind hbq
       have hbc := Below.refl wq.heap.size wq
       refine p_pvs [43] [] [150] [(151, undef)] hs ?_; clear hs; intro a hs
       refine c_done ⟨bl_of hbq hbc, ?_⟩
       clear hbc hbq
       refine c_seg ?_
       refine c_end ?_
       intro wq hbq
       replace hw := hw.behind hbq
       have hbc := Below.refl wq.heap.size wq
       refine p_pvs [44] [] [146, 151] [(152, undef)] hs ?_; clear hs; intro a hs
       refine c_done ⟨bl_of hbq hbc, ?_⟩
       clear hbc hbq
       refine c_seg ?_
       refine c_pvs [45, 46, 47, 49] [] [10, 12, 141, 152] [(154, .bool false), (155, undef), (157, undef)] hs ?_; clear hs; intro a hs
       replace hs : Slots a 161 [(154, .bool false), (155, undef), (157, undef)] := hs.kx
       refine c_end ?_
       intro wq hbq
       replace hw := hw.behind hbq
       have hbc := Below.refl wq.heap.size wq
       refine p_pvs [48] [] [155] [(156, undef)] hs ?_; clear hs; intro a hs
       refine c_done ⟨bl_of hbq hbc, ?_⟩
       clear hbc hbq
       refine c_seg ?_
       refine c_end ?_
       intro wq hbq
       replace hw := hw.behind hbq
       have hbc := Below.refl wq.heap.size wq
       refine p_pvs [50] [] [157] [(158, undef)] hs ?_; clear hs; intro a hs
       refine c_done ⟨bl_of hbq hbc, ?_⟩
       clear hbc hbq
       refine c_seg ?_
       refine c_end ?_
       intro wq hbq
       replace hw := hw.behind hbq
       have hbc := Below.refl wq.heap.size wq
       refine p_pvs [51] [] [156, 158] [(159, undef)] hs ?_; clear hs; intro a hs
       refine c_done ⟨bl_of hbq hbc, ?_⟩
       clear hbc hbq
       refine c_last ?_
       refine c_pvs [52, 53] [] [154, 159] [(6, .bool false)] hs ?_; clear hs; intro a hs
       refine c_end ?_
       intro wq hbq
       replace hw := hw.behind hbq
       replace hw := hw.up 10
       replace hw := hw.up 10
       replace hw := hw.up 10
       replace hw := hw.up 10
       replace hw := hw.up 10
       replace hw := hw.up 10
       replace hw := hw.up 10
       replace hw := hw.up 10
       replace hw := hw.up 10
       replace hw := hw.up 10
       replace hw := hw.up 10
       exact hJ6 false _ _ hs.kx hw H
      ·replace H := ite_t H (beq_iff_eq.1 hb222)
       rw [hb222] at hs
       refine c_pvs [20, 22] [] [] [(128, .pointer (some (⟨g117, 0, none⟩ : Addr))), (130, .pointer (some (⟨g145, 0, none⟩ : Addr)))] hs ?_; clear hs; intro a hs
       refine c_end ?_
       intro wq hbq
       replace hw := hw.behind hbq
       have hbc := Below.refl wq.heap.size wq
       obtain ⟨t224, hx225, H⟩ := bind_some H
       refine p_call hs (by rfl) (machine_Machine_Regs.calls (some ⟨g117, 0, none⟩) t127 t224 _ (rSmachine_Machine.of_m (hw.up 2)) hx225) ?_
       rintro e wd226 ⟨rfl, hw227⟩
       refine ⟨_, rfl, ?_⟩
       replace hbc := hw227.below
       replace hw := hw.call hw227
       clear hs; intro a hs; replace hs := hs.rms [128]
       refine c_done ⟨bl_of hbq hbc, ?_⟩
       clear hbc hbq
       refine c_seg ?_
       refine c_end ?_
       intro wq hbq
       replace hw := hw.behind hbq
       have hbc := Below.refl wq.heap.size wq
       obtain ⟨t229, hx230, H⟩ := bind_some H
       refine p_call hs (by rfl) (machine_Machine_Regs.calls (some ⟨g145, 0, none⟩) v188 t229 _ (rSmachine_Machine.of_m (hw.up 0)) hx230) ?_
       rintro e wd231 ⟨rfl, hw232⟩
       refine ⟨_, rfl, ?_⟩
       replace hbc := hw232.below
       replace hw := hw.call hw232
       clear hs; intro a hs; replace hs := hs.rms [130]
       refine c_done ⟨bl_of hbq hbc, ?_⟩
       clear hbc hbq
       refine c_seg ?_
       refine c_run hs (by rfl) (fun wx hbx => (x_eql (xs := (eSapi_Regs.enc t224).toArray) (ys := (eSapi_Regs.enc t229).toArray) (r := ((decide (t224.R = t229.R)) && ((t224.H == t229.H) && ((t224.N == t229.N) && ((t224.Z == t229.Z) && ((t224.C == t229.C) && ((t224.V == t229.V) && true))))))) (by kernel_rfl) (by kernel_rfl) (by kernel_rfl) (eq_struct Try.underlying26 (by kernel_rfl) (eq_cons (a := .agg (eA24.enc t224.R).toArray) (b := .agg (eA24.enc t229.R).toArray) (r := (decide (t224.R = t229.R))) (s := ((t224.H == t229.H) && ((t224.N == t229.N) && ((t224.Z == t229.Z) && ((t224.C == t229.C) && ((t224.V == t229.V) && true)))))) (by kernel_rfl) (part_pv (by kernel_rfl)) (part_pv (by kernel_rfl)) (eq_vec (e := 23) (k' := .u32) (k := .u32) t224.R t229.R (by kernel_rfl) (by kernel_rfl) (by kernel_rfl) (by kernel_rfl) (by kernel_rfl)) (eq_cons (a := .int .u32 t224.H) (b := .int .u32 t229.H) (r := (t224.H == t229.H)) (s := ((t224.N == t229.N) && ((t224.Z == t229.Z) && ((t224.C == t229.C) && ((t224.V == t229.V) && true))))) (by kernel_rfl) (part_pv (by kernel_rfl)) (part_pv (by kernel_rfl)) (eq_pv (by kernel_rfl)) (eq_cons (a := .bool t224.N) (b := .bool t229.N) (r := (t224.N == t229.N)) (s := ((t224.Z == t229.Z) && ((t224.C == t229.C) && ((t224.V == t229.V) && true)))) (by kernel_rfl) (part_pv (by kernel_rfl)) (part_pv (by kernel_rfl)) (eq_pv (by kernel_rfl)) (eq_cons (a := .bool t224.Z) (b := .bool t229.Z) (r := (t224.Z == t229.Z)) (s := ((t224.C == t229.C) && ((t224.V == t229.V) && true))) (by kernel_rfl) (part_pv (by kernel_rfl)) (part_pv (by kernel_rfl)) (eq_pv (by kernel_rfl)) (eq_cons (a := .bool t224.C) (b := .bool t229.C) (r := (t224.C == t229.C)) (s := ((t224.V == t229.V) && true)) (by kernel_rfl) (part_pv (by kernel_rfl)) (part_pv (by kernel_rfl)) (eq_pv (by kernel_rfl)) (eq_cons (a := .bool t224.V) (b := .bool t229.V) (r := (t224.V == t229.V)) (s := true) (by kernel_rfl) (part_pv (by kernel_rfl)) (part_pv (by kernel_rfl)) (eq_pv (by kernel_rfl)) eq_nil))))))))) [129, 131] ?_; clear hs; intro a hs
       refine c_pvs [25, 26] [27, 29] [127, 132] [(134, .bool ((decide (t224.R = t229.R)) && ((t224.H == t229.H) && ((t224.N == t229.N) && ((t224.Z == t229.Z) && ((t224.C == t229.C) && ((t224.V == t229.V) && true)))))))] hs ?_; clear hs; intro a hs
       cases hb233 : ((decide (t224.R = t229.R)) && ((t224.H == t229.H) && ((t224.N == t229.N) && ((t224.Z == t229.Z) && ((t224.C == t229.C) && ((t224.V == t229.V) && true))))))
       ·replace H := ite_f H (ff hb233)
        rw [hb233] at hs
        refine c_pvs [27, 29] [] [] [(135, undef), (137, undef)] hs ?_; clear hs; intro a hs
        refine c_end ?_
        intro wq hbq
        replace hw := hw.behind hbq
        have hbc := Below.refl wq.heap.size wq
        refine p_pvs [28] [] [135] [(136, undef)] hs ?_; clear hs; intro a hs
        refine c_done ⟨bl_of hbq hbc, ?_⟩
        clear hbc hbq
        refine c_seg ?_
        refine c_end ?_
        intro wq hbq
        replace hw := hw.behind hbq
        have hbc := Below.refl wq.heap.size wq
        refine p_pvs [30] [] [137] [(138, undef)] hs ?_; clear hs; intro a hs
        refine c_done ⟨bl_of hbq hbc, ?_⟩
        clear hbc hbq
        refine c_seg ?_
        refine c_end ?_
        intro wq hbq
        replace hw := hw.behind hbq
        have hbc := Below.refl wq.heap.size wq
        refine p_pvs [31] [] [136, 138] [(139, undef)] hs ?_; clear hs; intro a hs
        refine c_done ⟨bl_of hbq hbc, ?_⟩
        clear hbc hbq
        refine c_seg ?_
        refine c_pvs [32, 33, 34, 35, 36, 37, 39, 40, 41, 42] [] [8, 134, 139] [(141, .bool false), (145, undef), (150, undef)] hs ?_; clear hs; intro a hs
        refine c_end ?_
        intro wq hbq
        replace hw := hw.behind hbq
        have hbc := Below.refl wq.heap.size wq
        refine p_pvs [38] [] [145] [(146, undef)] hs ?_; clear hs; intro a hs
        refine c_done ⟨bl_of hbq hbc, ?_⟩
        clear hbc hbq
        refine c_seg ?_
        refine c_end ?_
        intro wq hbq
        replace hw := hw.behind hbq
        have hbc := Below.refl wq.heap.size wq
        refine p_pvs [43] [] [150] [(151, undef)] hs ?_; clear hs; intro a hs
        replace hs : Slots a 161 [(10, .pointer (some (⟨g134, 0, none⟩ : Addr))), (12, .pointer (some (⟨g145, 0, none⟩ : Addr))), (141, .bool false), (146, undef), (151, undef)] := hs.kx
        refine c_done ⟨bl_of hbq hbc, ?_⟩
        clear hbc hbq
        refine c_seg ?_
        refine c_end ?_
        intro wq hbq
        replace hw := hw.behind hbq
        have hbc := Below.refl wq.heap.size wq
        refine p_pvs [44] [] [146, 151] [(152, undef)] hs ?_; clear hs; intro a hs
        refine c_done ⟨bl_of hbq hbc, ?_⟩
        clear hbc hbq
        refine c_seg ?_
        refine c_pvs [45, 46, 47, 49] [] [10, 12, 141, 152] [(154, .bool false), (155, undef), (157, undef)] hs ?_; clear hs; intro a hs
        refine c_end ?_
        intro wq hbq
        replace hw := hw.behind hbq
        have hbc := Below.refl wq.heap.size wq
        refine p_pvs [48] [] [155] [(156, undef)] hs ?_; clear hs; intro a hs
        refine c_done ⟨bl_of hbq hbc, ?_⟩
        clear hbc hbq
        refine c_seg ?_
        refine c_end ?_
        intro wq hbq
        replace hw := hw.behind hbq
        have hbc := Below.refl wq.heap.size wq
        refine p_pvs [50] [] [157] [(158, undef)] hs ?_; clear hs; intro a hs
        refine c_done ⟨bl_of hbq hbc, ?_⟩
        clear hbc hbq
        refine c_seg ?_
        refine c_end ?_
        intro wq hbq
        replace hw := hw.behind hbq
        have hbc := Below.refl wq.heap.size wq
        refine p_pvs [51] [] [156, 158] [(159, undef)] hs ?_; clear hs; intro a hs
        refine c_done ⟨bl_of hbq hbc, ?_⟩
        clear hbc hbq
        refine c_last ?_
        refine c_pvs [52, 53] [] [154, 159] [(6, .bool false)] hs ?_; clear hs; intro a hs
        refine c_end ?_
        intro wq hbq
        replace hw := hw.behind hbq
        replace hw := hw.up 10
        replace hw := hw.up 10
        replace hw := hw.up 10
        replace hw := hw.up 10
        replace hw := hw.up 10
        replace hw := hw.up 10
        replace hw := hw.up 10
        replace hw := hw.up 10
        replace hw := hw.up 10
        replace hw := hw.up 10
        replace hw := hw.up 10
        exact hJ6 false _ _ hs.kx hw H
       ·replace H := ite_t H hb233
        rw [hb233] at hs
        refine c_pvs [27, 29] [] [] [(135, .pointer (some (⟨g117, 0, none⟩ : Addr))), (137, .pointer (some (⟨g134, 0, none⟩ : Addr)))] hs ?_; clear hs; intro a hs
        refine c_end ?_
        intro wq hbq
        replace hw := hw.behind hbq
        have hbc := Below.refl wq.heap.size wq
        obtain ⟨t235, hx236, H⟩ := bind_some H
        refine p_call hs (by rfl) (machine_Machine_Out.calls (some ⟨g117, 0, none⟩) t127 t235 _ (rSmachine_Machine.of_m (hw.up 2)) hx236) ?_
        rintro e wd239 ⟨Aa237, cc238, rfl, hw240⟩
        refine ⟨_, rfl, ?_⟩
        replace hbc := hw240.below
        replace hw := hw.call hw240
        clear hs; intro a hs; replace hs := hs.rms [135]
        refine c_done ⟨bl_of hbq hbc, ?_⟩
        clear hbc hbq
        refine c_seg ?_
        refine c_end ?_
        intro wq hbq
        replace hw := hw.behind hbq
        have hbc := Below.refl wq.heap.size wq
        obtain ⟨t243, hx244, H⟩ := bind_some H
        refine p_call hs (by rfl) (machine_Machine_Out.calls (some ⟨g134, 0, none⟩) t137 t243 _ (rSmachine_Machine.of_m (hw.up 2)) hx244) ?_
        rintro e wd247 ⟨Aa245, cc246, rfl, hw248⟩
        refine ⟨_, rfl, ?_⟩
        replace hbc := hw248.below
        replace hw := hw.call hw248
        clear hs; intro a hs; replace hs := hs.rms [137]
        refine c_done ⟨bl_of hbq hbc, ?_⟩
        clear hbc hbq
        refine c_seg ?_
        refine c_end ?_
        intro wq hbq
        replace hw := hw.behind hbq
        have hbc := Below.refl wq.heap.size wq
        obtain ⟨t251, hx252, H⟩ := bind_some H
        refine p_call hs (by rfl) (rivetref05_Same.calls Aa237 cc238 t235 Aa245 cc246 t243 t251 _ (Rd.of_own (hw.up 1)) (Rd.of_own (hw.up 0)) hx252) ?_
        rintro e wd253 ⟨rfl, hw254⟩
        refine ⟨_, rfl, ?_⟩
        replace hbc := hw254.below
        replace hw := hw.call hw254
        clear hs; intro a hs; replace hs := hs.rms [136, 138]
        refine c_done ⟨bl_of hbq hbc, ?_⟩
        clear hbc hbq
        refine c_seg ?_
        refine c_pvs [32, 33] [34, 35, 36, 37, 39, 40, 41, 42] [134, 139] [(141, .bool t251)] hs ?_; clear hs; intro a hs
        cases hb255 : t251
        ·replace H := ite_f H (ff hb255)
         rw [hb255] at hs
         refine c_pvs [34, 35, 36, 37, 39, 40, 41, 42] [] [8] [(145, undef), (150, undef)] hs ?_; clear hs; intro a hs
         refine c_end ?_
         intro wq hbq
         replace hw := hw.behind hbq
         have hbc := Below.refl wq.heap.size wq
         refine p_pvs [38] [] [145] [(146, undef)] hs ?_; clear hs; intro a hs
         replace hs : Slots a 161 [(10, .pointer (some (⟨g134, 0, none⟩ : Addr))), (12, .pointer (some (⟨g145, 0, none⟩ : Addr))), (141, .bool false), (146, undef), (150, undef)] := hs.kx
         refine c_done ⟨bl_of hbq hbc, ?_⟩
         clear hbc hbq
         refine c_seg ?_
         refine c_end ?_
         intro wq hbq
         replace hw := hw.behind hbq
         have hbc := Below.refl wq.heap.size wq
         refine p_pvs [43] [] [150] [(151, undef)] hs ?_; clear hs; intro a hs
         refine c_done ⟨bl_of hbq hbc, ?_⟩
         clear hbc hbq
         refine c_seg ?_
         refine c_end ?_
         intro wq hbq
         replace hw := hw.behind hbq
         have hbc := Below.refl wq.heap.size wq
         refine p_pvs [44] [] [146, 151] [(152, undef)] hs ?_; clear hs; intro a hs
         refine c_done ⟨bl_of hbq hbc, ?_⟩
         clear hbc hbq
         refine c_seg ?_
         refine c_pvs [45, 46, 47, 49] [] [10, 12, 141, 152] [(154, .bool false), (155, undef), (157, undef)] hs ?_; clear hs; intro a hs
         refine c_end ?_
         intro wq hbq
         replace hw := hw.behind hbq
         have hbc := Below.refl wq.heap.size wq
         refine p_pvs [48] [] [155] [(156, undef)] hs ?_; clear hs; intro a hs
         refine c_done ⟨bl_of hbq hbc, ?_⟩
         clear hbc hbq
         refine c_seg ?_
         refine c_end ?_
         intro wq hbq
         replace hw := hw.behind hbq
         have hbc := Below.refl wq.heap.size wq
         refine p_pvs [50] [] [157] [(158, undef)] hs ?_; clear hs; intro a hs
         refine c_done ⟨bl_of hbq hbc, ?_⟩
         clear hbc hbq
         refine c_seg ?_
         refine c_end ?_
         intro wq hbq
         replace hw := hw.behind hbq
         have hbc := Below.refl wq.heap.size wq
         refine p_pvs [51] [] [156, 158] [(159, undef)] hs ?_; clear hs; intro a hs
         refine c_done ⟨bl_of hbq hbc, ?_⟩
         clear hbc hbq
         refine c_last ?_
         refine c_pvs [52, 53] [] [154, 159] [(6, .bool false)] hs ?_; clear hs; intro a hs
         refine c_end ?_
         intro wq hbq
         replace hw := hw.behind hbq
         replace hw := hw.up 12
         replace hw := hw.up 12
         replace hw := hw.up 12
         replace hw := hw.up 12
         replace hw := hw.up 12
         replace hw := hw.up 12
         replace hw := hw.up 12
         replace hw := hw.up 12
         replace hw := hw.up 12
         replace hw := hw.up 12
         replace hw := hw.up 12
         replace hw := hw.only 11
         exact hJ6 false _ _ hs.kx hw H
        ·replace H := ite_t H hb255
         rw [hb255] at hs
         refine c_pvs [34, 35, 36] [37, 39, 40, 41, 42] [8] [(144, .pointer (some (⟨g117, 0, none⟩ : Addr)))] hs ?_; clear hs; intro a hs
         replace hw := hw.up 4
         obtain ⟨Aa256, Aa258, cc259, Aa261, cc262, hw⟩ := mSmachine_Machine.open1 hw
         replace hw : St [] w0 _ [box g117 40 ([.pointer Aa256] ++ eSapi_Regs.enc t127.s ++ [.int .u32 t127.pc, .int .i64 t127.status, .slice Aa258 t127.in'.length cc259, .slice Aa261 t127.out.length cc262]), oM mSmemory_Memory Aa256 t127.Memory, rdo (eI .u32) Aa258 cc259 t127.in', own 23 (eI .u32) Aa261 cc262 t127.out, own 23 (eI .u32) Aa245 cc246 t243, own 23 (eI .u32) Aa237 cc238 t235, mSmachine_Machine (some ⟨g145, 0, none⟩) v188, mSmachine_Machine (some ⟨g134, 0, none⟩) t137, oM mSrivetref06_Machine Aa71 t68, own 23 (eI .u32) Aa61 cc62 t59, oM mSrivetref06_Machine Aa52 t49, own 23 (eI .u32) Aa42 cc43 t40, oM mSrivetref06_Machine Aa33 t30, own 23 (eI .u32) Aa23 cc24 t21, box g2 28 (eSapi_Regs.enc a1.S ++ [.int .u32 (a1.PC.tmod 80), .slice A1_1 a1.In.length c1_1]), own 60 eA60 (some ad6) 1 [a2]] := hw
         replace hw := hw.up 1
         obtain ⟨y264, hy265, H⟩ := bind_some H
         replace hw := St.oM_some hw hy265
         obtain ⟨g266, hAg, hwg⟩ := St.one hw
         clear hw; subst hAg; have hw := hwg; clear hwg
         replace hw : St [] w0 _ [own 75 eSmemory_Memory (some (⟨g266, 0, none⟩ : Addr)) 1 [y264], box g117 40 ([.pointer (some (⟨g266, 0, none⟩ : Addr))] ++ eSapi_Regs.enc t127.s ++ [.int .u32 t127.pc, .int .i64 t127.status, .slice Aa258 t127.in'.length cc259, .slice Aa261 t127.out.length cc262]), rdo (eI .u32) Aa258 cc259 t127.in', own 23 (eI .u32) Aa261 cc262 t127.out, own 23 (eI .u32) Aa245 cc246 t243, own 23 (eI .u32) Aa237 cc238 t235, mSmachine_Machine (some ⟨g145, 0, none⟩) v188, mSmachine_Machine (some ⟨g134, 0, none⟩) t137, oM mSrivetref06_Machine Aa71 t68, own 23 (eI .u32) Aa61 cc62 t59, oM mSrivetref06_Machine Aa52 t49, own 23 (eI .u32) Aa42 cc43 t40, oM mSrivetref06_Machine Aa33 t30, own 23 (eI .u32) Aa23 cc24 t21, box g2 28 (eSapi_Regs.enc a1.S ++ [.int .u32 (a1.PC.tmod 80), .slice A1_1 a1.In.length c1_1]), own 60 eA60 (some ad6) 1 [a2]] := hw
         refine c_run hs (by rfl) (fun wx hbx => (x_bld (g := g117) (o := 0) (p := (⟨g117, 0, none⟩ : Addr)) (v := .pointer (some (⟨g266, 0, none⟩ : Addr))) ((hw.behind hbx).up 1))) [144] ?_; clear hs; intro a hs
         replace hs : Slots a 161 [(10, .pointer (some (⟨g134, 0, none⟩ : Addr))), (12, .pointer (some (⟨g145, 0, none⟩ : Addr))), (141, .bool true), (145, .pointer (some (⟨g266, 0, none⟩ : Addr)))] := hs.kx
         refine c_pvs [39, 40, 41] [42] [] [(149, .pointer (some (⟨g145, 0, none⟩ : Addr)))] hs ?_; clear hs; intro a hs
         replace hw := hw.up 6
         obtain ⟨Aa267, Aa269, cc270, Aa272, cc273, hw⟩ := mSmachine_Machine.open1 hw
         replace hw : St [] w0 _ [box g145 40 ([.pointer Aa267] ++ eSapi_Regs.enc v188.s ++ [.int .u32 v188.pc, .int .i64 v188.status, .slice Aa269 v188.in'.length cc270, .slice Aa272 v188.out.length cc273]), oM mSmemory_Memory Aa267 v188.Memory, rdo (eI .u32) Aa269 cc270 v188.in', own 23 (eI .u32) Aa272 cc273 v188.out, own 75 eSmemory_Memory (some (⟨g266, 0, none⟩ : Addr)) 1 [y264], box g117 40 ([.pointer (some (⟨g266, 0, none⟩ : Addr))] ++ eSapi_Regs.enc t127.s ++ [.int .u32 t127.pc, .int .i64 t127.status, .slice Aa258 t127.in'.length cc259, .slice Aa261 t127.out.length cc262]), rdo (eI .u32) Aa258 cc259 t127.in', own 23 (eI .u32) Aa261 cc262 t127.out, own 23 (eI .u32) Aa245 cc246 t243, own 23 (eI .u32) Aa237 cc238 t235, mSmachine_Machine (some ⟨g134, 0, none⟩) t137, oM mSrivetref06_Machine Aa71 t68, own 23 (eI .u32) Aa61 cc62 t59, oM mSrivetref06_Machine Aa52 t49, own 23 (eI .u32) Aa42 cc43 t40, oM mSrivetref06_Machine Aa33 t30, own 23 (eI .u32) Aa23 cc24 t21, box g2 28 (eSapi_Regs.enc a1.S ++ [.int .u32 (a1.PC.tmod 80), .slice A1_1 a1.In.length c1_1]), own 60 eA60 (some ad6) 1 [a2]] := hw
         replace hw := hw.up 1
         obtain ⟨y275, hy276, H⟩ := bind_some H
         replace hw := St.oM_some hw hy276
         obtain ⟨g277, hAg, hwg⟩ := St.one hw
         clear hw; subst hAg; have hw := hwg; clear hwg
         replace hw : St [] w0 _ [own 75 eSmemory_Memory (some (⟨g277, 0, none⟩ : Addr)) 1 [y275], box g145 40 ([.pointer (some (⟨g277, 0, none⟩ : Addr))] ++ eSapi_Regs.enc v188.s ++ [.int .u32 v188.pc, .int .i64 v188.status, .slice Aa269 v188.in'.length cc270, .slice Aa272 v188.out.length cc273]), rdo (eI .u32) Aa269 cc270 v188.in', own 23 (eI .u32) Aa272 cc273 v188.out, own 75 eSmemory_Memory (some (⟨g266, 0, none⟩ : Addr)) 1 [y264], box g117 40 ([.pointer (some (⟨g266, 0, none⟩ : Addr))] ++ eSapi_Regs.enc t127.s ++ [.int .u32 t127.pc, .int .i64 t127.status, .slice Aa258 t127.in'.length cc259, .slice Aa261 t127.out.length cc262]), rdo (eI .u32) Aa258 cc259 t127.in', own 23 (eI .u32) Aa261 cc262 t127.out, own 23 (eI .u32) Aa245 cc246 t243, own 23 (eI .u32) Aa237 cc238 t235, mSmachine_Machine (some ⟨g134, 0, none⟩) t137, oM mSrivetref06_Machine Aa71 t68, own 23 (eI .u32) Aa61 cc62 t59, oM mSrivetref06_Machine Aa52 t49, own 23 (eI .u32) Aa42 cc43 t40, oM mSrivetref06_Machine Aa33 t30, own 23 (eI .u32) Aa23 cc24 t21, box g2 28 (eSapi_Regs.enc a1.S ++ [.int .u32 (a1.PC.tmod 80), .slice A1_1 a1.In.length c1_1]), own 60 eA60 (some ad6) 1 [a2]] := hw
         refine c_run hs (by rfl) (fun wx hbx => (x_bld (g := g145) (o := 0) (p := (⟨g145, 0, none⟩ : Addr)) (v := .pointer (some (⟨g277, 0, none⟩ : Addr))) ((hw.behind hbx).up 1))) [149] ?_; clear hs; intro a hs
         refine c_end ?_
         intro wq hbq
         replace hw := hw.behind hbq
         have hbc := Below.refl wq.heap.size wq
         obtain ⟨t279, hx280, H⟩ := bind_some H
         refine p_call hs (by rfl) (memory_Memory_Words.calls (some (⟨g266, 0, none⟩ : Addr)) y264 t279 _ (Rd.of_own (hw.up 4)) hx280) ?_
         rintro e wd283 ⟨Aa281, cc282, rfl, hw284⟩
         refine ⟨_, rfl, ?_⟩
         replace hbc := hw284.below
         replace hw := hw.call hw284
         clear hs; intro a hs; replace hs := hs.rms [145]
         refine c_done ⟨bl_of hbq hbc, ?_⟩
         clear hbc hbq
         refine c_seg ?_
         refine c_end ?_
         intro wq hbq
         replace hw := hw.behind hbq
         have hbc := Below.refl wq.heap.size wq
         obtain ⟨t287, hx288, H⟩ := bind_some H
         refine p_call hs (by rfl) (memory_Memory_Words.calls (some (⟨g277, 0, none⟩ : Addr)) y275 t287 _ (Rd.of_own (hw.up 1)) hx288) ?_
         rintro e wd291 ⟨Aa289, cc290, rfl, hw292⟩
         refine ⟨_, rfl, ?_⟩
         replace hbc := hw292.below
         replace hw := hw.call hw292
         clear hs; intro a hs; replace hs := hs.rms [150]
         refine c_done ⟨bl_of hbq hbc, ?_⟩
         clear hbc hbq
         refine c_seg ?_
         refine c_end ?_
         intro wq hbq
         replace hw := hw.behind hbq
         have hbc := Below.refl wq.heap.size wq
         obtain ⟨t295, hx296, H⟩ := bind_some H
         refine p_call hs (by rfl) (rivetref05_Same.calls Aa281 cc282 t279 Aa289 cc290 t287 t295 _ (Rd.of_own (hw.up 1)) (Rd.of_own (hw.up 0)) hx296) ?_
         rintro e wd297 ⟨rfl, hw298⟩
         refine ⟨_, rfl, ?_⟩
         replace hbc := hw298.below
         replace hw := hw.call hw298
         clear hs; intro a hs; replace hs := hs.rms [146, 151]
         refine c_done ⟨bl_of hbq hbc, ?_⟩
         clear hbc hbq
         refine c_seg ?_
         refine c_pvs [45, 46] [47, 49] [141, 152] [(154, .bool t295)] hs ?_; clear hs; intro a hs
         cases hb299 : t295
         ·replace H := ite_f H (ff hb299)
          rw [hb299] at hs
          refine c_pvs [47, 49] [] [10, 12] [(155, undef), (157, undef)] hs ?_; clear hs; intro a hs
          refine c_end ?_
          intro wq hbq
          replace hw := hw.behind hbq
          have hbc := Below.refl wq.heap.size wq
          refine p_pvs [48] [] [155] [(156, undef)] hs ?_; clear hs; intro a hs
          refine c_done ⟨bl_of hbq hbc, ?_⟩
          clear hbc hbq
          refine c_seg ?_
          refine c_end ?_
          intro wq hbq
          replace hw := hw.behind hbq
          have hbc := Below.refl wq.heap.size wq
          refine p_pvs [50] [] [157] [(158, undef)] hs ?_; clear hs; intro a hs
          refine c_done ⟨bl_of hbq hbc, ?_⟩
          clear hbc hbq
          refine c_seg ?_
          refine c_end ?_
          intro wq hbq
          replace hw := hw.behind hbq
          have hbc := Below.refl wq.heap.size wq
          refine p_pvs [51] [] [156, 158] [(159, undef)] hs ?_; clear hs; intro a hs
          refine c_done ⟨bl_of hbq hbc, ?_⟩
          clear hbc hbq
          refine c_last ?_
          refine c_pvs [52, 53] [] [154, 159] [(6, .bool false)] hs ?_; clear hs; intro a hs
          refine c_end ?_
          intro wq hbq
          replace hw := hw.behind hbq
          replace hw := hw.up 2
          replace hw := St.oM_back (m := mSmemory_Memory) (A := (some (⟨g277, 0, none⟩ : Addr))) (x := y275) hw hy276
          replace hw := hw.up 5
          replace hw := hw.up 5
          replace hw := hw.up 2
          replace hw := hw.up 5
          replace hw := mSmachine_Machine.close (x := v188) hw
          replace hw := hw.up 3
          replace hw := St.oM_back (m := mSmemory_Memory) (A := (some (⟨g266, 0, none⟩ : Addr))) (x := y264) hw hy265
          replace hw := hw.up 6
          replace hw := hw.up 6
          replace hw := hw.up 2
          replace hw := hw.up 6
          replace hw := mSmachine_Machine.close (x := t127) hw
          replace hw := hw.up 14
          replace hw := hw.up 14
          replace hw := hw.up 14
          replace hw := hw.up 14
          replace hw := hw.up 14
          replace hw := hw.up 14
          replace hw := hw.up 14
          replace hw := hw.up 14
          replace hw := hw.up 8
          replace hw := hw.up 14
          replace hw := hw.up 10
          replace hw := hw.only 11
          exact hJ6 false _ _ hs.kx hw H
         ·replace H := ite_t H hb299
          rw [hb299] at hs
          refine c_pvs [47, 49] [] [10, 12] [(155, .pointer (some (⟨g134, 0, none⟩ : Addr))), (157, .pointer (some (⟨g145, 0, none⟩ : Addr)))] hs ?_; clear hs; intro a hs
          refine c_end ?_
          intro wq hbq
          replace hw := hw.behind hbq
          have hbc := Below.refl wq.heap.size wq
          obtain ⟨t301, hx302, H⟩ := bind_some H
          refine p_call hs (by rfl) (machine_Machine_Out.calls (some ⟨g134, 0, none⟩) t137 t301 _ (rSmachine_Machine.of_m (hw.up 12)) hx302) ?_
          rintro e wd305 ⟨Aa303, cc304, rfl, hw306⟩
          refine ⟨_, rfl, ?_⟩
          replace hbc := hw306.below
          replace hw := hw.call hw306
          clear hs; intro a hs; replace hs := hs.rms [155]
          refine c_done ⟨bl_of hbq hbc, ?_⟩
          clear hbc hbq
          refine c_seg ?_
          refine c_end ?_
          intro wq hbq
          replace hw := hw.behind hbq
          have hbc := Below.refl wq.heap.size wq
          replace hw := hw.up 3
          replace hw := St.oM_back (m := mSmemory_Memory) (A := (some (⟨g277, 0, none⟩ : Addr))) (x := y275) hw hy276
          replace hw := hw.up 6
          replace hw := hw.up 6
          replace hw := hw.up 2
          replace hw := hw.up 6
          replace hw := mSmachine_Machine.close (x := v188) hw
          obtain ⟨t309, hx310, H⟩ := bind_some H
          refine p_call hs (by rfl) (machine_Machine_Out.calls (some ⟨g145, 0, none⟩) v188 t309 _ (rSmachine_Machine.of_m (hw.up 0)) hx310) ?_
          rintro e wd313 ⟨Aa311, cc312, rfl, hw314⟩
          refine ⟨_, rfl, ?_⟩
          replace hbc := hw314.below
          replace hw := hw.call hw314
          clear hs; intro a hs; replace hs := hs.rms [157]
          refine c_done ⟨bl_of hbq hbc, ?_⟩
          clear hbc hbq
          refine c_seg ?_
          refine c_end ?_
          intro wq hbq
          replace hw := hw.behind hbq
          have hbc := Below.refl wq.heap.size wq
          obtain ⟨t317, hx318, H⟩ := bind_some H
          refine p_call hs (by rfl) (rivetref05_Same.calls Aa303 cc304 t301 Aa311 cc312 t309 t317 _ (Rd.of_own (hw.up 2)) (Rd.of_own (hw.up 0)) hx318) ?_
          rintro e wd319 ⟨rfl, hw320⟩
          refine ⟨_, rfl, ?_⟩
          replace hbc := hw320.below
          replace hw := hw.call hw320
          clear hs; intro a hs; replace hs := hs.rms [156, 158]
          refine c_done ⟨bl_of hbq hbc, ?_⟩
          clear hbc hbq
          refine c_last ?_
          refine c_pvs [52, 53] [] [154, 159] [(6, .bool t317)] hs ?_; clear hs; intro a hs
          refine c_end ?_
          intro wq hbq
          replace hw := hw.behind hbq
          replace hw := hw.up 5
          replace hw := St.oM_back (m := mSmemory_Memory) (A := (some (⟨g266, 0, none⟩ : Addr))) (x := y264) hw hy265
          replace hw := hw.up 8
          replace hw := hw.up 8
          replace hw := hw.up 2
          replace hw := hw.up 8
          replace hw := mSmachine_Machine.close (x := t127) hw
          replace hw := hw.up 16
          replace hw := hw.up 16
          replace hw := hw.up 16
          replace hw := hw.up 16
          replace hw := hw.up 16
          replace hw := hw.up 16
          replace hw := hw.up 16
          replace hw := hw.up 16
          replace hw := hw.up 8
          replace hw := hw.up 16
          replace hw := hw.up 11
          replace hw := hw.only 11
          exact hJ6 t317 _ _ hs.kx hw H
   refine go_seq_k fun K162 hK162 => ?_
   have hJ4 : ∀ (v183 : Smachine_Machine) (v184 : Bool) (a : Act) (w : World), Slots a 161 [(8, .pointer (some (⟨g117, 0, none⟩ : Addr))), (10, .pointer (some (⟨g134, 0, none⟩ : Addr))), (12, .pointer (some (⟨g145, 0, none⟩ : Addr))), (107, .bool v184)] → St [] w0 w [mSmachine_Machine (some ⟨g145, 0, none⟩) v183, mSmachine_Machine (some ⟨g134, 0, none⟩) t137, mSmachine_Machine (some ⟨g117, 0, none⟩) t127, oM mSrivetref06_Machine Aa71 t68, own 23 (eI .u32) Aa61 cc62 t59, oM mSrivetref06_Machine Aa52 t49, own 23 (eI .u32) Aa42 cc43 t40, oM mSrivetref06_Machine Aa33 t30, own 23 (eI .u32) Aa23 cc24 t21, box g2 28 (eSapi_Regs.enc a1.S ++ [.int .u32 (a1.PC.tmod 80), .slice A1_1 a1.In.length c1_1]), own 60 eA60 (some ad6) 1 [a2]] → rivetlaw06_MachineRuns.j4 t127 t137 v183 v184 = some r → K162 a w := by
    intro v183 v184 a w hs hw H
    unfold rivetlaw06_MachineRuns.j4 at H
    refine hK162 _ _ ?_
    refine go_cond hs v184 (fun hc => ?_) fun hc => ?_
    ·replace H := ite_t H hc
     have hb185 := hc
     rw [hb185] at hs
     refine go_sp [8, 10, 12, 107] [(6, .bool false)] hs ?_; clear hs; intro a hs
     refine wp_ret ?_
     refine th_ret ?_
     obtain rfl := Option.some.inj H
     refine ret1 (t := 6) (v := .bool false) hs (by kernel_rfl) (by kernel_rfl) ?_
     exact ⟨rfl, hw.only 0⟩
    ·replace H := ite_f H (ff hc)
     have hb187 := hc
     rw [hb187] at hs
     refine wp_skip ?_
     replace hw := hw.up 10
     replace hw := hw.up 10
     replace hw := hw.up 10
     replace hw := hw.up 10
     replace hw := hw.up 10
     replace hw := hw.up 10
     replace hw := hw.up 10
     replace hw := hw.up 10
     replace hw := hw.up 10
     replace hw := hw.up 10
     replace hw := hw.up 10
     exact hJ5 v183 _ _ hs.kx hw H
   refine go_region ?_
   refine go_pvs 1 [] [(87, .pointer (some (⟨g145, 0, none⟩ : Addr)))] hs ?_; clear hs; intro a hs
   obtain ⟨ks163, hgks163, hstks163, hbkks163⟩ := hw.lend 1
   obtain ⟨⟨t164, t165⟩, hx166, H⟩ := bind_some H
   refine go_call hs (by rfl) (machine_Machine_Run.calls ks163 (some ⟨g145, 0, none⟩) v160 (-1) (t164, t165) _ hgks163 hx166) ?_
   rintro e wd167 ⟨rfl, hw168⟩
   refine ⟨_, rfl, ?_⟩
   replace hw := hbkks163 _ _ hw168
   replace hw : St [] w0 wd167 [mSmachine_Machine (some ⟨g145, 0, none⟩) t165, mSmachine_Machine (some ⟨g134, 0, none⟩) t137, mSmachine_Machine (some ⟨g117, 0, none⟩) t127, oM mSrivetref06_Machine Aa71 t68, own 23 (eI .u32) Aa61 cc62 t59, oM mSrivetref06_Machine Aa52 t49, own 23 (eI .u32) Aa42 cc43 t40, oM mSrivetref06_Machine Aa33 t30, own 23 (eI .u32) Aa23 cc24 t21, box g2 28 (eSapi_Regs.enc a1.S ++ [.int .u32 (a1.PC.tmod 80), .slice A1_1 a1.In.length c1_1]), own 60 eA60 (some ad6) 1 [a2]] := hw
   clear hs; intro a hs; replace hs := hs.rms [87]
   refine go_pvs 5 [88] [(91, .bool (t164 != t136))] hs ?_; clear hs; intro a hs
   cases hb169 : (t164 != t136)
   ·replace H := ite_t H (bne_eq_false_iff_eq.1 hb169)
    rw [hb169] at hs
    refine go_pvs 6 [] [(92, .pointer (some (⟨g145, 0, none⟩ : Addr)))] hs ?_; clear hs; intro a hs
    obtain ⟨ks170, hgks170, hstks170, hbkks170⟩ := hw.lend 1
    obtain ⟨⟨t171, t172⟩, hx173, H⟩ := bind_some H
    refine go_call hs (by rfl) (machine_Machine_Run.calls ks170 (some ⟨g145, 0, none⟩) t165 0 (t171, t172) _ hgks170 hx173) ?_
    rintro e wd174 ⟨rfl, hw175⟩
    refine ⟨_, rfl, ?_⟩
    replace hw := hbkks170 _ _ hw175
    replace hw : St [] w0 wd174 [mSmachine_Machine (some ⟨g145, 0, none⟩) t172, mSmachine_Machine (some ⟨g134, 0, none⟩) t137, mSmachine_Machine (some ⟨g117, 0, none⟩) t127, oM mSrivetref06_Machine Aa71 t68, own 23 (eI .u32) Aa61 cc62 t59, oM mSrivetref06_Machine Aa52 t49, own 23 (eI .u32) Aa42 cc43 t40, oM mSrivetref06_Machine Aa33 t30, own 23 (eI .u32) Aa23 cc24 t21, box g2 28 (eSapi_Regs.enc a1.S ++ [.int .u32 (a1.PC.tmod 80), .slice A1_1 a1.In.length c1_1]), own 60 eA60 (some ad6) 1 [a2]] := hw
    clear hs; intro a hs; replace hs := hs.rms [92]
    refine go_pvs 11 [91, 93] [(97, .bool (t171 != t136))] hs ?_; clear hs; intro a hs
    cases hb176 : (t171 != t136)
    ·replace H := ite_t H (bne_eq_false_iff_eq.1 hb176)
     rw [hb176] at hs
     refine go_pvs 16 [16, 97] [(102, .bool (t126 != t136))] hs ?_; clear hs; intro a hs
     cases hb177 : (t126 != t136)
     ·replace H := ite_t H (bne_eq_false_iff_eq.1 hb177)
      rw [hb177] at hs
      refine go_pvs 17 [] [(103, .pointer (some (⟨g145, 0, none⟩ : Addr)))] hs ?_; clear hs; intro a hs
      obtain ⟨t179, hx180, H⟩ := bind_some H
      refine go_call hs (by rfl) (machine_Machine_Status.calls (some ⟨g145, 0, none⟩) t172 t179 _ (rSmachine_Machine.of_m (hw.up 0)) hx180) ?_
      rintro e wd181 ⟨rfl, hw182⟩
      refine ⟨_, rfl, ?_⟩
      replace hw := hw.call hw182
      clear hs; intro a hs; replace hs := hs.rms [103]
      refine go_pvs 21 [17, 102, 104] [(107, .bool (t179 != t136))] hs ?_; clear hs; intro a hs
      refine go_end ?_
      replace hw := hw.up 10
      replace hw := hw.up 10
      replace hw := hw.up 10
      replace hw := hw.up 10
      replace hw := hw.up 10
      replace hw := hw.up 10
      replace hw := hw.up 10
      replace hw := hw.up 10
      replace hw := hw.up 10
      replace hw := hw.up 10
      replace hw := hw.up 10
      exact hJ4 t172 (t179 != t136) _ _ hs.kx hw H
     ·replace H := ite_f H (bne_iff_ne.1 hb177)
      rw [hb177] at hs
      refine go_pvs 21 [17, 102] [(107, .bool true)] hs ?_; clear hs; intro a hs
      refine go_end ?_
      replace hw := hw.up 10
      replace hw := hw.up 10
      replace hw := hw.up 10
      replace hw := hw.up 10
      replace hw := hw.up 10
      replace hw := hw.up 10
      replace hw := hw.up 10
      replace hw := hw.up 10
      replace hw := hw.up 10
      replace hw := hw.up 10
      replace hw := hw.up 10
      exact hJ4 t172 true _ _ hs.kx hw H
    ·replace H := ite_f H (bne_iff_ne.1 hb176)
     rw [hb176] at hs
     refine go_pvs 21 [16, 17, 97] [(107, .bool true)] hs ?_; clear hs; intro a hs
     refine go_end ?_
     replace hw := hw.up 10
     replace hw := hw.up 10
     replace hw := hw.up 10
     replace hw := hw.up 10
     replace hw := hw.up 10
     replace hw := hw.up 10
     replace hw := hw.up 10
     replace hw := hw.up 10
     replace hw := hw.up 10
     replace hw := hw.up 10
     replace hw := hw.up 10
     exact hJ4 t172 true _ _ hs.kx hw H
   ·replace H := ite_f H (bne_iff_ne.1 hb169)
    rw [hb169] at hs
    refine go_pvs 21 [16, 17, 91] [(107, .bool true)] hs ?_; clear hs; intro a hs
    refine go_end ?_
    replace hw := hw.up 10
    replace hw := hw.up 10
    replace hw := hw.up 10
    replace hw := hw.up 10
    replace hw := hw.up 10
    replace hw := hw.up 10
    replace hw := hw.up 10
    replace hw := hw.up 10
    replace hw := hw.up 10
    replace hw := hw.up 10
    replace hw := hw.up 10
    exact hJ4 t165 true _ _ hs.kx hw H
  clear H
  refine go_loop (σ := Smachine_Machine × Int) (fun σ a w => Slots a 161 [(8, .pointer (some (⟨g117, 0, none⟩ : Addr))), (10, .pointer (some (⟨g134, 0, none⟩ : Addr))), (12, .pointer (some (⟨g145, 0, none⟩ : Addr))), (14, .int .i64 y111), (15, .int .i64 y113), (16, .int .i64 t126), (17, .int .i64 t136), (18, .int .i64 σ.2)] ∧ St [] w0 w [mSmachine_Machine (some ⟨g145, 0, none⟩) σ.1, mSmachine_Machine (some ⟨g134, 0, none⟩) t137, mSmachine_Machine (some ⟨g117, 0, none⟩) t127, oM mSrivetref06_Machine Aa71 t68, own 23 (eI .u32) Aa61 cc62 t59, oM mSrivetref06_Machine Aa52 t49, own 23 (eI .u32) Aa42 cc43 t40, oM mSrivetref06_Machine Aa33 t30, own 23 (eI .u32) Aa23 cc24 t21, box g2 28 (eSapi_Regs.enc a1.S ++ [.int .u32 (a1.PC.tmod 80), .slice A1_1 a1.In.length c1_1]), own 60 eA60 (some ad6) 1 [a2]]) hl146 (by exact ⟨hs.kx, hw⟩) ?_
  rintro ⟨v147, v148⟩ a w ⟨hs, hw⟩ o H hr146
  replace hs : Slots a 161 [(8, .pointer (some (⟨g117, 0, none⟩ : Addr))), (10, .pointer (some (⟨g134, 0, none⟩ : Addr))), (12, .pointer (some (⟨g145, 0, none⟩ : Addr))), (14, .int .i64 y111), (15, .int .i64 y113), (16, .int .i64 t126), (17, .int .i64 t136), (18, .int .i64 v148)] := hs
  replace hw : St [] w0 w [mSmachine_Machine (some ⟨g145, 0, none⟩) v147, mSmachine_Machine (some ⟨g134, 0, none⟩) t137, mSmachine_Machine (some ⟨g117, 0, none⟩) t127, oM mSrivetref06_Machine Aa71 t68, own 23 (eI .u32) Aa61 cc62 t59, oM mSrivetref06_Machine Aa52 t49, own 23 (eI .u32) Aa42 cc43 t40, oM mSrivetref06_Machine Aa33 t30, own 23 (eI .u32) Aa23 cc24 t21, box g2 28 (eSapi_Regs.enc a1.S ++ [.int .u32 (a1.PC.tmod 80), .slice A1_1 a1.In.length c1_1]), own 60 eA60 (some ad6) 1 [a2]] := hw
  replace H : rivetlaw06_MachineRuns.b146 y111 y113 v147 v148 = some o := H
  unfold rivetlaw06_MachineRuns.b146 at H
  refine go_seq_k fun K149 hK149 => ?_
  refine go_sp [] [(82, .bool (decide (v148 < (w64 (y111 + y113)))))] hs ?_; clear hs; intro a hs
  refine go_cond hs (decide (v148 < (w64 (y111 + y113)))) (fun hc => ?_) fun hc => ?_
  ·replace H := ite_t H (of_decide_eq_true hc)
   have hb151 := hc
   rw [hb151] at hs
   refine wp_skip ?_
   refine hK149 _ _ ?_
   refine go_seq_k fun K152 hK152 => ?_
   refine wp_block ?_
   refine go_region ?_
   refine go_pvs 1 [82] [(85, .pointer (some (⟨g145, 0, none⟩ : Addr)))] hs ?_; clear hs; intro a hs
   obtain ⟨ks153, hgks153, hstks153, hbkks153⟩ := hw.lend 1
   obtain ⟨⟨t154, t155⟩, hx156, H⟩ := bind_some H
   refine go_call hs (by rfl) (machine_Machine_Step.calls ks153 (some ⟨g145, 0, none⟩) v147 (t154, t155) _ hgks153 hx156) ?_
   rintro e wd157 ⟨rfl, hw158⟩
   refine ⟨_, rfl, ?_⟩
   replace hw := hbkks153 _ _ hw158
   replace hw : St [] w0 wd157 [mSmachine_Machine (some ⟨g145, 0, none⟩) t155, mSmachine_Machine (some ⟨g134, 0, none⟩) t137, mSmachine_Machine (some ⟨g117, 0, none⟩) t127, oM mSrivetref06_Machine Aa71 t68, own 23 (eI .u32) Aa61 cc62 t59, oM mSrivetref06_Machine Aa52 t49, own 23 (eI .u32) Aa42 cc43 t40, oM mSrivetref06_Machine Aa33 t30, own 23 (eI .u32) Aa23 cc24 t21, box g2 28 (eSapi_Regs.enc a1.S ++ [.int .u32 (a1.PC.tmod 80), .slice A1_1 a1.In.length c1_1]), own 60 eA60 (some ad6) 1 [a2]] := hw
   clear hs; intro a hs; replace hs := hs.rms [85, 86]
   refine go_end ?_
   refine ib_norm ?_
   refine hK152 _ _ ?_
   refine go_plain [] [(18, .int .i64 (w64 (v148 + 1)))] hs ?_; clear hs; intro a hs
   replace hw := hw.up 10
   replace hw := hw.up 10
   replace hw := hw.up 10
   replace hw := hw.up 10
   replace hw := hw.up 10
   replace hw := hw.up 10
   replace hw := hw.up 10
   replace hw := hw.up 10
   replace hw := hw.up 10
   replace hw := hw.up 10
   replace hw := hw.up 10
   exact round_end (t155, w64 (v148 + 1)) (Option.some.inj H).symm ⟨hs.kx, hw⟩
  ·replace H := ite_f H (of_decide_eq_false hc)
   have hb159 := hc
   rw [hb159] at hs
   refine wp_exit ?_
   refine th_exit ?_
   refine th_exit ?_
   refine in_block ?_
   replace hw := hw.up 10
   replace hw := hw.up 10
   replace hw := hw.up 10
   replace hw := hw.up 10
   replace hw := hw.up 10
   replace hw := hw.up 10
   replace hw := hw.up 10
   replace hw := hw.up 10
   replace hw := hw.up 10
   replace hw := hw.up 10
   replace hw := hw.up 10
   rw [← hr146 _ (Option.some.inj H).symm] at HX146
   exact hJ3 v147 _ _ hs.kx hw HX146
 refine go_seq_k fun K77 hK77 => ?_
 have hJ1 : ∀ (Aa86 : Option Addr) (x87 : Option Smachine_Machine) (Aa89 : Option Addr) (x90 : Option Smachine_Machine) (Aa92 : Option Addr) (x93 : Option Smachine_Machine) (v94 : Bool) (a : Act) (w : World), Slots a 161 [(5, .pointer (some ad6)), (8, .pointer Aa86), (10, .pointer Aa89), (12, .pointer Aa92), (58, .bool v94)] → St [] w0 w [oM mSrivetref06_Machine Aa71 t68, own 23 (eI .u32) Aa61 cc62 t59, oM mSrivetref06_Machine Aa52 t49, own 23 (eI .u32) Aa42 cc43 t40, oM mSrivetref06_Machine Aa33 t30, own 23 (eI .u32) Aa23 cc24 t21, box g2 28 (eSapi_Regs.enc a1.S ++ [.int .u32 (a1.PC.tmod 80), .slice A1_1 a1.In.length c1_1]), own 60 eA60 (some ad6) 1 [a2], oM mSmachine_Machine Aa86 x87, oM mSmachine_Machine Aa89 x90, oM mSmachine_Machine Aa92 x93] → rivetlaw06_MachineRuns.j1 a2 x87 x90 x93 v94 = some r → K77 a w := by
  intro Aa86 x87 Aa89 x90 Aa92 x93 v94 a w hs hw H
  unfold rivetlaw06_MachineRuns.j1 at H
  refine hK77 _ _ ?_
  refine go_cond hs v94 (fun hc => ?_) fun hc => ?_
  ·replace H := ite_t H hc
   have hb95 := hc
   rw [hb95] at hs
   refine go_sp [5, 8, 10, 12, 58] [(6, .bool false)] hs ?_; clear hs; intro a hs
   refine wp_ret ?_
   refine th_ret ?_
   obtain rfl := Option.some.inj H
   refine ret1 (t := 6) (v := .bool false) hs (by kernel_rfl) (by kernel_rfl) ?_
   exact ⟨rfl, hw.only 0⟩
  ·replace H := ite_f H (ff hc)
   have hb97 := hc
   rw [hb97] at hs
   refine wp_skip ?_
   replace hw := hw.up 10
   replace hw := hw.up 10
   replace hw := hw.up 10
   replace hw := hw.up 10
   replace hw := hw.up 10
   replace hw := hw.up 10
   replace hw := hw.up 10
   replace hw := hw.up 10
   replace hw := hw.up 10
   replace hw := hw.up 10
   replace hw := hw.up 10
   exact hJ2 Aa86 x87 Aa89 x90 Aa92 x93 _ _ hs.kx hw H
 refine go_region ?_
 refine go_pvs 3 [7] [(47, .bool (!t12))] hs ?_; clear hs; intro a hs
 replace hs : Slots a 161 [(5, .pointer (some ad6)), (8, .pointer Aa32), (10, .pointer Aa51), (12, .pointer Aa70), (47, .bool (!t12))] := hs.kx
 cases hb78 : (!t12)
 ·replace H := ite_t H (nf hb78)
  rw [hb78] at hs
  refine go_pvs 4 [] [(48, .pointer Aa32)] hs ?_; clear hs; intro a hs
  replace hw := hw.up 6
  rcases t29 with _ | x79
  ·obtain ⟨hAg, hwg⟩ := St.oM_none hw
   clear hw; subst hAg; have hw := hwg; clear hwg
   refine go_pvs 14 [47, 48] [(8, .pointer none), (58, .bool true)] hs ?_; clear hs; intro a hs
   refine go_end ?_
   replace hw := St.oM_nil mSmachine_Machine hw
   replace hw := hw.up 1
   replace hw := hw.up 4
   replace hw := hw.up 2
   replace hw := hw.up 10
   replace hw := hw.up 10
   replace hw := hw.up 10
   replace hw := hw.up 10
   replace hw := hw.up 10
   replace hw := hw.up 10
   replace hw := hw.up 10
   replace hw := hw.up 10
   exact hJ1 none (none : Option Smachine_Machine) Aa51 t48 Aa70 t67 true _ _ hs.kx hw H
  ·replace hw : St [] w0 _ [mSmachine_Machine Aa32 x79, oM mSmachine_Machine Aa70 t67, oM mSrivetref06_Machine Aa71 t68, own 23 (eI .u32) Aa61 cc62 t59, oM mSmachine_Machine Aa51 t48, oM mSrivetref06_Machine Aa52 t49, own 23 (eI .u32) Aa42 cc43 t40, oM mSrivetref06_Machine Aa33 t30, own 23 (eI .u32) Aa23 cc24 t21, box g2 28 (eSapi_Regs.enc a1.S ++ [.int .u32 (a1.PC.tmod 80), .slice A1_1 a1.In.length c1_1]), own 60 eA60 (some ad6) 1 [a2]] := hw
   obtain ⟨g80, hAg, hwg⟩ := mSmachine_Machine.addr hw
   clear hw; subst hAg; have hw := hwg; clear hwg
   replace hw : St [] w0 _ [mSmachine_Machine (some ⟨g80, 0, none⟩) x79, oM mSmachine_Machine Aa70 t67, oM mSrivetref06_Machine Aa71 t68, own 23 (eI .u32) Aa61 cc62 t59, oM mSmachine_Machine Aa51 t48, oM mSrivetref06_Machine Aa52 t49, own 23 (eI .u32) Aa42 cc43 t40, oM mSrivetref06_Machine Aa33 t30, own 23 (eI .u32) Aa23 cc24 t21, box g2 28 (eSapi_Regs.enc a1.S ++ [.int .u32 (a1.PC.tmod 80), .slice A1_1 a1.In.length c1_1]), own 60 eA60 (some ad6) 1 [a2]] := hw
   refine go_pvs 8 [47, 48] [(8, .pointer (some (⟨g80, 0, none⟩ : Addr))), (51, .bool false), (52, .pointer Aa51)] hs ?_; clear hs; intro a hs
   replace hw := hw.up 4
   rcases t48 with _ | x81
   ·obtain ⟨hAg, hwg⟩ := St.oM_none hw
    clear hw; subst hAg; have hw := hwg; clear hwg
    refine go_pvs 14 [51, 52] [(10, .pointer none), (58, .bool true)] hs ?_; clear hs; intro a hs
    refine go_end ?_
    replace hw := St.oM_of (m := mSmachine_Machine) (A := (some ⟨g80, 0, none⟩)) (x := x79) hw
    replace hw := St.oM_nil mSmachine_Machine hw
    replace hw := hw.up 2
    replace hw := hw.up 1
    replace hw := hw.up 2
    replace hw := hw.up 10
    replace hw := hw.up 10
    replace hw := hw.up 10
    replace hw := hw.up 10
    replace hw := hw.up 10
    replace hw := hw.up 10
    replace hw := hw.up 10
    replace hw := hw.up 10
    exact hJ1 (some ⟨g80, 0, none⟩) (some x79) none (none : Option Smachine_Machine) Aa70 t67 true _ _ hs.kx hw H
   ·replace hw : St [] w0 _ [mSmachine_Machine Aa51 x81, mSmachine_Machine (some ⟨g80, 0, none⟩) x79, oM mSmachine_Machine Aa70 t67, oM mSrivetref06_Machine Aa71 t68, own 23 (eI .u32) Aa61 cc62 t59, oM mSrivetref06_Machine Aa52 t49, own 23 (eI .u32) Aa42 cc43 t40, oM mSrivetref06_Machine Aa33 t30, own 23 (eI .u32) Aa23 cc24 t21, box g2 28 (eSapi_Regs.enc a1.S ++ [.int .u32 (a1.PC.tmod 80), .slice A1_1 a1.In.length c1_1]), own 60 eA60 (some ad6) 1 [a2]] := hw
    obtain ⟨g82, hAg, hwg⟩ := mSmachine_Machine.addr hw
    clear hw; subst hAg; have hw := hwg; clear hwg
    replace hw : St [] w0 _ [mSmachine_Machine (some ⟨g82, 0, none⟩) x81, mSmachine_Machine (some ⟨g80, 0, none⟩) x79, oM mSmachine_Machine Aa70 t67, oM mSrivetref06_Machine Aa71 t68, own 23 (eI .u32) Aa61 cc62 t59, oM mSrivetref06_Machine Aa52 t49, own 23 (eI .u32) Aa42 cc43 t40, oM mSrivetref06_Machine Aa33 t30, own 23 (eI .u32) Aa23 cc24 t21, box g2 28 (eSapi_Regs.enc a1.S ++ [.int .u32 (a1.PC.tmod 80), .slice A1_1 a1.In.length c1_1]), own 60 eA60 (some ad6) 1 [a2]] := hw
    refine go_pvs 12 [51, 52] [(10, .pointer (some (⟨g82, 0, none⟩ : Addr))), (55, .bool false), (56, .pointer Aa70)] hs ?_; clear hs; intro a hs
    replace hw := hw.up 2
    rcases t67 with _ | x83
    ·obtain ⟨hAg, hwg⟩ := St.oM_none hw
     clear hw; subst hAg; have hw := hwg; clear hwg
     refine go_pvs 14 [55, 56] [(12, .pointer none), (58, .bool true)] hs ?_; clear hs; intro a hs
     refine go_end ?_
     replace hw := hw.up 1
     replace hw := St.oM_of (m := mSmachine_Machine) (A := (some ⟨g80, 0, none⟩)) (x := x79) hw
     replace hw := hw.up 1
     replace hw := St.oM_of (m := mSmachine_Machine) (A := (some ⟨g82, 0, none⟩)) (x := x81) hw
     replace hw := St.oM_nil mSmachine_Machine hw
     replace hw := hw.up 1
     replace hw := hw.up 2
     replace hw := hw.up 10
     replace hw := hw.up 10
     replace hw := hw.up 10
     replace hw := hw.up 10
     replace hw := hw.up 10
     replace hw := hw.up 10
     replace hw := hw.up 10
     replace hw := hw.up 10
     exact hJ1 (some ⟨g80, 0, none⟩) (some x79) (some ⟨g82, 0, none⟩) (some x81) none (none : Option Smachine_Machine) true _ _ hs.kx hw H
    ·replace hw : St [] w0 _ [mSmachine_Machine Aa70 x83, mSmachine_Machine (some ⟨g82, 0, none⟩) x81, mSmachine_Machine (some ⟨g80, 0, none⟩) x79, oM mSrivetref06_Machine Aa71 t68, own 23 (eI .u32) Aa61 cc62 t59, oM mSrivetref06_Machine Aa52 t49, own 23 (eI .u32) Aa42 cc43 t40, oM mSrivetref06_Machine Aa33 t30, own 23 (eI .u32) Aa23 cc24 t21, box g2 28 (eSapi_Regs.enc a1.S ++ [.int .u32 (a1.PC.tmod 80), .slice A1_1 a1.In.length c1_1]), own 60 eA60 (some ad6) 1 [a2]] := hw
     obtain ⟨g84, hAg, hwg⟩ := mSmachine_Machine.addr hw
     clear hw; subst hAg; have hw := hwg; clear hwg
     replace hw : St [] w0 _ [mSmachine_Machine (some ⟨g84, 0, none⟩) x83, mSmachine_Machine (some ⟨g82, 0, none⟩) x81, mSmachine_Machine (some ⟨g80, 0, none⟩) x79, oM mSrivetref06_Machine Aa71 t68, own 23 (eI .u32) Aa61 cc62 t59, oM mSrivetref06_Machine Aa52 t49, own 23 (eI .u32) Aa42 cc43 t40, oM mSrivetref06_Machine Aa33 t30, own 23 (eI .u32) Aa23 cc24 t21, box g2 28 (eSapi_Regs.enc a1.S ++ [.int .u32 (a1.PC.tmod 80), .slice A1_1 a1.In.length c1_1]), own 60 eA60 (some ad6) 1 [a2]] := hw
     refine go_pvs 14 [55, 56] [(12, .pointer (some (⟨g84, 0, none⟩ : Addr))), (58, .bool false)] hs ?_; clear hs; intro a hs
     refine go_end ?_
     replace hw := hw.up 2
     replace hw := St.oM_of (m := mSmachine_Machine) (A := (some ⟨g80, 0, none⟩)) (x := x79) hw
     replace hw := hw.up 2
     replace hw := St.oM_of (m := mSmachine_Machine) (A := (some ⟨g82, 0, none⟩)) (x := x81) hw
     replace hw := hw.up 2
     replace hw := St.oM_of (m := mSmachine_Machine) (A := (some ⟨g84, 0, none⟩)) (x := x83) hw
     replace hw := hw.up 1
     replace hw := hw.up 2
     replace hw := hw.up 10
     replace hw := hw.up 10
     replace hw := hw.up 10
     replace hw := hw.up 10
     replace hw := hw.up 10
     replace hw := hw.up 10
     replace hw := hw.up 10
     replace hw := hw.up 10
     exact hJ1 (some ⟨g80, 0, none⟩) (some x79) (some ⟨g82, 0, none⟩) (some x81) (some ⟨g84, 0, none⟩) (some x83) false _ _ hs.kx hw H
 ·replace H := ite_f H (ff (nt hb78))
  rw [hb78] at hs
  refine go_pvs 14 [47] [(58, .bool true)] hs ?_; clear hs; intro a hs
  refine go_end ?_
  replace hw := hw.up 3
  replace hw := hw.up 6
  replace hw := hw.up 10
  replace hw := hw.up 10
  replace hw := hw.up 10
  replace hw := hw.up 10
  replace hw := hw.up 10
  replace hw := hw.up 10
  replace hw := hw.up 10
  replace hw := hw.up 10
  exact hJ1 Aa32 t29 Aa51 t48 Aa70 t67 true _ _ hs.kx hw H

end Go.Proofs.Ytheccnbamcdpmaa.T06
