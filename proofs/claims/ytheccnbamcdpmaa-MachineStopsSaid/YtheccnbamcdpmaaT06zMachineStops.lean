/- YtheccnbamcdpmaaT06zMachineStops: Go functions told as plain ones, each with a proof that its call comes to what is told, part 1. Condition of each: that the plain function comes to a value. -/
import Derived.Test.YtheccnbamcdpmaaT06
import Derived.Test.YtheccnbamcdpmaaEP
import Derived.Test.YtheccnbamcdpmaaProg
namespace Go.Proofs.Ytheccnbamcdpmaa.T06
open Go Go.RowKit Go.Proofs.Ytheccnbamcdpmaa.E
set_option linter.unusedVariables false
set_option linter.unusedSimpArgs false
def eA24 : Enc (Vector Int 16) := ⟨16, fun x => [.int .u32 (vx 0 x 0), .int .u32 (vx 0 x 1), .int .u32 (vx 0 x 2), .int .u32 (vx 0 x 3), .int .u32 (vx 0 x 4), .int .u32 (vx 0 x 5), .int .u32 (vx 0 x 6), .int .u32 (vx 0 x 7), .int .u32 (vx 0 x 8), .int .u32 (vx 0 x 9), .int .u32 (vx 0 x 10), .int .u32 (vx 0 x 11), .int .u32 (vx 0 x 12), .int .u32 (vx 0 x 13), .int .u32 (vx 0 x 14), .int .u32 (vx 0 x 15)], (Vector.replicate 16 0), by decide, fun _ => rfl, fun x u hu => by simp at hu; rcases hu with rfl | rfl | rfl | rfl | rfl | rfl | rfl | rfl | rfl | rfl | rfl | rfl | rfl | rfl | rfl | rfl <;> rfl⟩
/-! rivet/rivetlaw06.MachineStops: function 3 -/
noncomputable def rivetlaw06_MachineStops.j8 (v57 : Int) (v253 : Smachine_Machine) : Option (Smachine_Machine × Int ⊕ (Ex Bool Smachine_Machine)) := some (.inl (v253, w64 (v57 + 1)))
noncomputable def rivetlaw06_MachineStops.j7 (v57 : Int) (t118 : Smachine_Machine) (v249 : Bool) : Option (Smachine_Machine × Int ⊕ (Ex Bool Smachine_Machine)) := (if v249 = true then some (.inr (.ret false)) else rivetlaw06_MachineStops.j8 v57 t118)
noncomputable def rivetlaw06_MachineStops.j6 (v57 : Int) (t118 : Smachine_Machine) (t117 : Int) (t111 : Int) (v246 : Bool) : Option (Smachine_Machine × Int ⊕ (Ex Bool Smachine_Machine)) := (if v246 = true then rivetlaw06_MachineStops.j7 v57 t118 (t117 != t111) else rivetlaw06_MachineStops.j7 v57 t118 false)
noncomputable def rivetlaw06_MachineStops.j5 (v57 : Int) (t118 : Smachine_Machine) (t117 : Int) (t111 : Int) (v241 : Bool) (v242 : Bool) : Option (Smachine_Machine × Int ⊕ (Ex Bool Smachine_Machine)) := (if v242 = true then some (.inr (.ret false)) else rivetlaw06_MachineStops.j6 v57 t118 t117 t111 v241)
noncomputable def rivetlaw06_MachineStops.j4 (t111 : Int) (t117 : Int) (t118 : Smachine_Machine) (t64 : Sapi_Regs) (v57 : Int) (t76 : Int) (t93 : List Int) (t102 : List Int) : Option (Smachine_Machine × Int ⊕ (Ex Bool Smachine_Machine)) := (if t111 = 0 then (if t117 > 1 then ((machine_Machine_Regs t118).bind fun t142 => ((if (!((decide (t142.R = ((t64 : Sapi_Regs).R))) && ((t142.H == ((t64 : Sapi_Regs).H)) && ((t142.N == ((t64 : Sapi_Regs).N)) && ((t142.Z == ((t64 : Sapi_Regs).Z)) && ((t142.C == ((t64 : Sapi_Regs).C)) && ((t142.V == ((t64 : Sapi_Regs).V)) && true))))))) = true then rivetlaw06_MachineStops.j5 v57 t118 t117 t111 false true else ((machine_Machine_PC t118).bind fun t148 => ((if t148 = t76 then ((t118.Memory).bind fun y161 => (((memory_Memory_Words y161).bind fun t165 => (((rivetref05_Same t165 t93).bind fun t173 => ((if t173 = true then ((machine_Machine_Out t118).bind fun t179 => (((rivetref05_Same t179 t102).bind fun t187 => (rivetlaw06_MachineStops.j5 v57 t118 t117 t111 false (!t187))))) else rivetlaw06_MachineStops.j5 v57 t118 t117 t111 false true))))))) else rivetlaw06_MachineStops.j5 v57 t118 t117 t111 false true)))))) else rivetlaw06_MachineStops.j5 v57 t118 t117 t111 false false) else ((machine_Machine_Regs t118).bind fun t192 => ((if (!((decide (t192.R = ((t64 : Sapi_Regs).R))) && ((t192.H == ((t64 : Sapi_Regs).H)) && ((t192.N == ((t64 : Sapi_Regs).N)) && ((t192.Z == ((t64 : Sapi_Regs).Z)) && ((t192.C == ((t64 : Sapi_Regs).C)) && ((t192.V == ((t64 : Sapi_Regs).V)) && true))))))) = true then rivetlaw06_MachineStops.j5 v57 t118 t117 t111 true true else ((machine_Machine_PC t118).bind fun t198 => ((if t198 = t76 then ((t118.Memory).bind fun y211 => (((memory_Memory_Words y211).bind fun t215 => (((rivetref05_Same t215 t93).bind fun t223 => ((if t223 = true then ((machine_Machine_Out t118).bind fun t229 => (((rivetref05_Same t229 t102).bind fun t237 => (rivetlaw06_MachineStops.j5 v57 t118 t117 t111 true (!t237))))) else rivetlaw06_MachineStops.j5 v57 t118 t117 t111 true true))))))) else rivetlaw06_MachineStops.j5 v57 t118 t117 t111 true true)))))))
noncomputable def rivetlaw06_MachineStops.j3 (t111 : Int) (t117 : Int) (t118 : Smachine_Machine) (t64 : Sapi_Regs) (v57 : Int) (t76 : Int) (t93 : List Int) (t102 : List Int) (v131 : Bool) : Option (Smachine_Machine × Int ⊕ (Ex Bool Smachine_Machine)) := (if v131 = true then some (.inr (.ret false)) else rivetlaw06_MachineStops.j4 t111 t117 t118 t64 v57 t76 t93 t102)
noncomputable def rivetlaw06_MachineStops.b55 (v56 : Smachine_Machine) (v57 : Int) : Option (Smachine_Machine × Int ⊕ (Ex Bool Smachine_Machine)) := (if v57 < 40 then ((machine_Machine_Regs v56).bind fun t64 => (((machine_Machine_PC v56).bind fun t76 => (((v56.Memory).bind fun y89 => (((memory_Memory_Words y89).bind fun t93 => (((machine_Machine_Out v56).bind fun t102 => (((machine_Machine_Status v56).bind fun t111 => (((machine_Machine_Step v56).bind fun ⟨t117, t118⟩ => (((machine_Machine_Status t118).bind fun t125 => ((if t117 = t125 then (if t117 < 0 then rivetlaw06_MachineStops.j3 t111 t117 t118 t64 v57 t76 t93 t102 true else rivetlaw06_MachineStops.j3 t111 t117 t118 t64 v57 t76 t93 t102 (decide (t117 > 5))) else rivetlaw06_MachineStops.j3 t111 t117 t118 t64 v57 t76 t93 t102 true))))))))))))))))) else some (.inr (.done v56)))
noncomputable def rivetlaw06_MachineStops.j9 (v255 : Smachine_Machine) : Option Bool := some true
noncomputable def rivetlaw06_MachineStops.j2 (x49 : Option Smachine_Machine) : Option Bool := ((x49).bind fun y52 => (((loopO (fun (σ : Smachine_Machine × Int) => rivetlaw06_MachineStops.b55 σ.1 σ.2) (y52, 0)).bind fun e => match e with | .ret x => some x | .done e => rivetlaw06_MachineStops.j9 e)))
noncomputable def rivetlaw06_MachineStops.j1 (x41 : Option Smachine_Machine) (v42 : Bool) : Option Bool := (if v42 = true then some false else rivetlaw06_MachineStops.j2 x41)
noncomputable def rivetlaw06_MachineStops (l0 : List Int) (a1 : Srivetlaw06_Set) : Option Bool := ((rivetlaw06_shown).bind fun t8 => (((rivetlaw06_fit l0).bind fun t17 => (((rivetlaw06_made t17 (⟨a1.S, a1.PC.tmod 80, a1.In⟩ : Srivetlaw06_Set)).bind fun ⟨t25, t26⟩ => ((if t8 = true then (match t25 with | none => rivetlaw06_MachineStops.j1 (none : Option Smachine_Machine) true | some x37 => rivetlaw06_MachineStops.j1 (some x37) false) else rivetlaw06_MachineStops.j1 t25 true)))))))
set_option maxRecDepth 100000 in
set_option maxHeartbeats 4000000 in
theorem rivetlaw06_MachineStops.calls (A0 : Option Addr) (c0 : Nat) (l0 : List Int) (a1 : Srivetlaw06_Set) (A1_1 : Option Addr) (c1_1 : Nat) (r : Bool) (w0 : World) (hr0 : Rd w0 (eI .u32) A0 c0 l0) (hr1_1 : Rd w0 (eI .u32) A1_1 c1_1 a1.In) (H : rivetlaw06_MachineStops l0 a1 = some r) :
    Calls Try.prog 3 #[.slice A0 l0.length c0, .agg #[.int .u32 (vx 0 a1.S.R 0), .int .u32 (vx 0 a1.S.R 1), .int .u32 (vx 0 a1.S.R 2), .int .u32 (vx 0 a1.S.R 3), .int .u32 (vx 0 a1.S.R 4), .int .u32 (vx 0 a1.S.R 5), .int .u32 (vx 0 a1.S.R 6), .int .u32 (vx 0 a1.S.R 7), .int .u32 (vx 0 a1.S.R 8), .int .u32 (vx 0 a1.S.R 9), .int .u32 (vx 0 a1.S.R 10), .int .u32 (vx 0 a1.S.R 11), .int .u32 (vx 0 a1.S.R 12), .int .u32 (vx 0 a1.S.R 13), .int .u32 (vx 0 a1.S.R 14), .int .u32 (vx 0 a1.S.R 15), .int .u32 a1.S.H, .bool a1.S.N, .bool a1.S.Z, .bool a1.S.C, .bool a1.S.V, .int .u32 a1.PC, .slice A1_1 a1.In.length c1_1]] w0 fun e w' => e = .returned (.bool r) ∧ St [] w0 w' [] := by
 have hw : St [] w0 w0 [] := St.nil w0
 unfold rivetlaw06_MachineStops at H
 refine go_fn Try.func3 rfl Try.ntmps3 ?_; intro a hs
 refine go_sk fun K1 hK1 => ?_
 obtain ⟨g2, wd3, hx4, hw⟩ := x_boxc (P := Try.prog) (elem := 28) (v := (Operand.tmp 1)) (ty := 0) (cs := eSapi_Regs.enc a1.S ++ [.int .u32 a1.PC, .slice A1_1 a1.In.length c1_1]) hs hw (by kernel_rfl)
 refine go_run hs (by rfl) hx4 [1] ?_; clear hs; intro a hs
 refine go_pvs 2 [] [] hs ?_; clear hs; intro a hs
 refine go_end (hK1 _ _ ?_)
 refine go_sk fun K6 hK6 => ?_
 obtain ⟨t8, hx9, H⟩ := bind_some H
 refine go_call hs (by rfl) (rivetlaw06_shown.calls t8 _ hx9) ?_
 rintro e wd10 ⟨rfl, hw11⟩
 refine ⟨_, rfl, ?_⟩
 replace hw := hw.call hw11
 clear hs; intro a hs
 refine go_pvs 2 [17] [(5, .bool t8)] hs ?_; clear hs; intro a hs
 refine go_end (hK6 _ _ ?_)
 refine go_sk fun K12 hK12 => ?_
 refine go_pvs 1 [] [(18, .pointer (some (⟨g2, 21, none⟩ : Addr)))] hs ?_; clear hs; intro a hs
 refine go_run hs (by rfl) (x_bld (g := g2) (o := 21) (p := (⟨g2, 21, none⟩ : Addr)) (v := .int .u32 a1.PC) (hw.up 0)) [18] ?_; clear hs; intro a hs
 refine go_pvs 4 [19] [(20, .int .u32 (a1.PC.tmod 80)), (21, .pointer (some (⟨g2, 21, none⟩ : Addr)))] hs ?_; clear hs; intro a hs
 obtain ⟨wd13, hx14, hw⟩ := x_bput (P := Try.prog) (ty := 0) (t := 23) (y := (Operand.tmp 21)) (z := (Operand.tmp 20)) (o := 21) (p := (⟨g2, 21, none⟩ : Addr)) (v := .int .u32 (a1.PC.tmod 80)) (vs := [.int .u32 (a1.PC.tmod 80)]) (cs' := eSapi_Regs.enc a1.S ++ [.int .u32 (a1.PC.tmod 80), .slice A1_1 a1.In.length c1_1]) hs hw (by kernel_rfl) rfl (by kernel_rfl) rfl (by kernel_rfl) (by kernel_rfl) (by simp [Value.oneCell']) (by kernel_rfl)
 refine go_unit hs (by rfl) hx14 [20, 21] ?_; clear hs; intro a hs
 refine go_end (hK12 _ _ ?_)
 refine go_seq_k fun K15 hK15 => ?_
 refine c_region [(true, [0, 2], 1), (true, [], 3)] [4, 5, 6, 7, 8] (by kernel_rfl) (by kernel_rfl) (fun c a d v w h => by cases d <;> exact h) ?_
 refine c_seg ?_
 refine c_pvs [0] [2] [0] [(23, .slice A0 l0.length c0)] hs ?_; clear hs; intro a hs
 refine c_run hs (by rfl) (fun wx hbx => (x_blds (g := g2) (o := 0) (p := (⟨g2, 0, none⟩ : Addr)) (vs := [.int .u32 (vx 0 a1.S.R 0), .int .u32 (vx 0 a1.S.R 1), .int .u32 (vx 0 a1.S.R 2), .int .u32 (vx 0 a1.S.R 3), .int .u32 (vx 0 a1.S.R 4), .int .u32 (vx 0 a1.S.R 5), .int .u32 (vx 0 a1.S.R 6), .int .u32 (vx 0 a1.S.R 7), .int .u32 (vx 0 a1.S.R 8), .int .u32 (vx 0 a1.S.R 9), .int .u32 (vx 0 a1.S.R 10), .int .u32 (vx 0 a1.S.R 11), .int .u32 (vx 0 a1.S.R 12), .int .u32 (vx 0 a1.S.R 13), .int .u32 (vx 0 a1.S.R 14), .int .u32 (vx 0 a1.S.R 15), .int .u32 a1.S.H, .bool a1.S.N, .bool a1.S.Z, .bool a1.S.C, .bool a1.S.V, .int .u32 (a1.PC.tmod 80), .slice A1_1 a1.In.length c1_1]) ((hw.behind hbx).up 0))) [3] ?_; clear hs; intro a hs
 refine c_end ?_
 intro wq hbq
 replace hw := hw.behind hbq
 have hbc := Below.refl wq.heap.size wq
 obtain ⟨t17, hx18, H⟩ := bind_some H
 refine p_call hs (by rfl) (rivetlaw06_fit.calls A0 c0 l0 t17 _ (hr0.old hw) hx18) ?_
 rintro e wd21 ⟨Aa19, cc20, rfl, hw22⟩
 refine ⟨_, rfl, ?_⟩
 replace hbc := hw22.below
 replace hw := hw.call hw22
 clear hs; intro a hs; replace hs := hs.rms [23]
 refine c_done ⟨bl_of hbq hbc, ?_⟩
 clear hbc hbq
 refine c_seg ?_
 refine c_end ?_
 intro wq hbq
 replace hw := hw.behind hbq
 have hbc := Below.refl wq.heap.size wq
 obtain ⟨⟨t25, t26⟩, hx27, H⟩ := bind_some H
 refine p_call hs (by rfl) (rivetlaw06_made.calls Aa19 cc20 t17 (⟨a1.S, a1.PC.tmod 80, a1.In⟩ : Srivetlaw06_Set) A1_1 c1_1 (t25, t26) _ (Rd.of_own (hw.up 0)) (hr1_1.old hw) hx27) ?_
 rintro e wd30 ⟨Aa28, Aa29, rfl, hw31⟩
 refine ⟨_, rfl, ?_⟩
 replace hbc := hw31.below
 replace hw := hw.call hw31
 clear hs; intro a hs; replace hs := hs.rms [24, 25]
 refine c_done ⟨bl_of hbq hbc, ?_⟩
 clear hbc hbq
 refine c_last ?_
 refine c_pvs [4, 5, 6, 7, 8] [] [26] [(6, .pointer Aa28)] hs ?_; clear hs; intro a hs
 refine c_end ?_
 intro wq hbq
 replace hw := hw.behind hbq
 refine hK15 _ _ ?_
 refine go_seq_k fun K34 hK34 => ?_
 have hJ2 : ∀ (Aa48 : Option Addr) (x49 : Option Smachine_Machine) (a : Act) (w : World), Slots a 109 [(6, .pointer Aa48)] → St [] w0 w [oM mSrivetref06_Machine Aa29 t26, own 23 (eI .u32) Aa19 cc20 t17, box g2 28 (eSapi_Regs.enc a1.S ++ [.int .u32 (a1.PC.tmod 80), .slice A1_1 a1.In.length c1_1]), oM mSmachine_Machine Aa48 x49] → rivetlaw06_MachineStops.j2 x49 = some r → K34 a w := by
  intro Aa48 x49 a w hs hw H
  unfold rivetlaw06_MachineStops.j2 at H
  refine hK34 _ _ ?_
  refine go_seq_k fun K50 hK50 => ?_
  refine go_sp [] [(8, .int .i64 0)] hs ?_; clear hs; intro a hs
  refine wp_block ?_
  obtain ⟨y52, hy53, H⟩ := bind_some H
  replace hw := hw.up 3
  replace hw := St.oM_some hw hy53
  obtain ⟨g54, hAg, hwg⟩ := mSmachine_Machine.addr hw
  clear hw; subst hAg; have hw := hwg; clear hwg
  replace hw : St [] w0 _ [mSmachine_Machine (some ⟨g54, 0, none⟩) y52, oM mSrivetref06_Machine Aa29 t26, own 23 (eI .u32) Aa19 cc20 t17, box g2 28 (eSapi_Regs.enc a1.S ++ [.int .u32 (a1.PC.tmod 80), .slice A1_1 a1.In.length c1_1])] := hw
  obtain ⟨e55, hl55, HX55⟩ := bind_some H
  have hJ9 : ∀ (v255 : Smachine_Machine) (a : Act) (w : World), Slots a 109 [] → St [] w0 w [mSmachine_Machine (some ⟨g54, 0, none⟩) v255, oM mSrivetref06_Machine Aa29 t26, own 23 (eI .u32) Aa19 cc20 t17, box g2 28 (eSapi_Regs.enc a1.S ++ [.int .u32 (a1.PC.tmod 80), .slice A1_1 a1.In.length c1_1])] → rivetlaw06_MachineStops.j9 v255 = some r → K50 a w := by
   intro v255 a w hs hw H
   unfold rivetlaw06_MachineStops.j9 at H
   refine hK50 _ _ ?_
   refine go_sp [] [(4, .bool true)] hs ?_; clear hs; intro a hs
   refine wp_ret ?_
   obtain rfl := Option.some.inj H
   refine ret1 (t := 4) (v := .bool true) hs (by kernel_rfl) (by kernel_rfl) ?_
   exact ⟨rfl, hw.only 0⟩
  clear H
  refine go_loop (σ := Smachine_Machine × Int) (fun σ a w => Slots a 109 [(6, .pointer (some (⟨g54, 0, none⟩ : Addr))), (8, .int .i64 σ.2)] ∧ St [] w0 w [mSmachine_Machine (some ⟨g54, 0, none⟩) σ.1, oM mSrivetref06_Machine Aa29 t26, own 23 (eI .u32) Aa19 cc20 t17, box g2 28 (eSapi_Regs.enc a1.S ++ [.int .u32 (a1.PC.tmod 80), .slice A1_1 a1.In.length c1_1])]) hl55 (by exact ⟨hs.kx, hw⟩) ?_
  rintro ⟨v56, v57⟩ a w ⟨hs, hw⟩ o H hr55
  replace hs : Slots a 109 [(6, .pointer (some (⟨g54, 0, none⟩ : Addr))), (8, .int .i64 v57)] := hs
  replace hw : St [] w0 w [mSmachine_Machine (some ⟨g54, 0, none⟩) v56, oM mSrivetref06_Machine Aa29 t26, own 23 (eI .u32) Aa19 cc20 t17, box g2 28 (eSapi_Regs.enc a1.S ++ [.int .u32 (a1.PC.tmod 80), .slice A1_1 a1.In.length c1_1])] := hw
  replace H : rivetlaw06_MachineStops.b55 v56 v57 = some o := H
  unfold rivetlaw06_MachineStops.b55 at H
  refine go_seq_k fun K58 hK58 => ?_
  refine go_sp [] [(36, .bool (decide (v57 < 40)))] hs ?_; clear hs; intro a hs
  refine go_cond hs (decide (v57 < 40)) (fun hc => ?_) fun hc => ?_
  ·replace H := ite_t H (of_decide_eq_true hc)
   have hb60 := hc
   rw [hb60] at hs
   refine wp_skip ?_
   refine hK58 _ _ ?_
   refine go_seq_k fun K61 hK61 => ?_
   have hJ8 : ∀ (v253 : Smachine_Machine) (a : Act) (w : World), Slots a 109 [(6, .pointer (some (⟨g54, 0, none⟩ : Addr))), (8, .int .i64 v57)] → St [] w0 w [mSmachine_Machine (some ⟨g54, 0, none⟩) v253, oM mSrivetref06_Machine Aa29 t26, own 23 (eI .u32) Aa19 cc20 t17, box g2 28 (eSapi_Regs.enc a1.S ++ [.int .u32 (a1.PC.tmod 80), .slice A1_1 a1.In.length c1_1])] → rivetlaw06_MachineStops.j8 v57 v253 = some o → K61 a w := by
    intro v253 a w hs hw H
    unfold rivetlaw06_MachineStops.j8 at H
    refine hK61 _ _ ?_
    refine go_plain [] [(8, .int .i64 (w64 (v57 + 1)))] hs ?_; clear hs; intro a hs
    replace hw := hw.up 3
    replace hw := hw.up 3
    replace hw := hw.up 3
    replace hw := hw.up 3
    exact round_end (v253, w64 (v57 + 1)) (Option.some.inj H).symm ⟨hs.kx, hw⟩
   refine wp_block ?_
   refine go_sk fun K62 hK62 => ?_
   refine go_pvs 1 [36] [(39, .pointer (some (⟨g54, 0, none⟩ : Addr)))] hs ?_; clear hs; intro a hs
   obtain ⟨t64, hx65, H⟩ := bind_some H
   refine go_call hs (by rfl) (machine_Machine_Regs.calls (some ⟨g54, 0, none⟩) v56 t64 _ (rSmachine_Machine.of_m (hw.up 0)) hx65) ?_
   rintro e wd66 ⟨rfl, hw67⟩
   refine ⟨_, rfl, ?_⟩
   replace hw := hw.call hw67
   clear hs; intro a hs; replace hs := hs.rms [39]
   obtain ⟨ad68, wd69, hx70, hw⟩ := x_alloc1 (P := Try.prog) (elem := 26) (ty := 0) (z := .agg (eSapi_Regs.enc (⟨(Vector.replicate 16 0), 0, false, false, false, false⟩ : Sapi_Regs)).toArray) hs hw eSapi_Regs (⟨(Vector.replicate 16 0), 0, false, false, false, false⟩ : Sapi_Regs) (by kernel_rfl) (by kernel_rfl)
   refine go_run hs (by rfl) hx70 [] ?_; clear hs; intro a hs
   obtain ⟨wd72, hx73, hw⟩ := x_put (P := Try.prog) (ty := 0) (t := 26) (x := (Operand.tmp 9)) (y := (Operand.tmp 40)) (off := 0) (p := ad68) (v := .agg (eSapi_Regs.enc t64).toArray) (vs := (eSapi_Regs.enc t64)) (i := 0) (e' := ((t64 : Sapi_Regs) : Sapi_Regs)) hs hw rfl (one_ok (⟨(Vector.replicate 16 0), 0, false, false, false, false⟩ : Sapi_Regs)).1 (one_ok (⟨(Vector.replicate 16 0), 0, false, false, false, false⟩ : Sapi_Regs)).2 (by kernel_rfl) (one_at _ _) (by kernel_rfl) rfl (by kernel_rfl) (Nat.le_of_ble_eq_true rfl) (eSapi_Regs.one _) (by kernel_rfl)
   refine go_unit hs (by rfl) hx73 [40] ?_; clear hs; intro a hs
   replace hw : St [] w0 wd72 [own 26 eSapi_Regs (some ad68) 1 [(t64 : Sapi_Regs)], mSmachine_Machine (some ⟨g54, 0, none⟩) v56, oM mSrivetref06_Machine Aa29 t26, own 23 (eI .u32) Aa19 cc20 t17, box g2 28 (eSapi_Regs.enc a1.S ++ [.int .u32 (a1.PC.tmod 80), .slice A1_1 a1.In.length c1_1])] := hw
   refine go_end (hK62 _ _ ?_)
   refine go_sk fun K74 hK74 => ?_
   refine go_pvs 1 [] [(41, .pointer (some (⟨g54, 0, none⟩ : Addr)))] hs ?_; clear hs; intro a hs
   obtain ⟨t76, hx77, H⟩ := bind_some H
   refine go_call hs (by rfl) (machine_Machine_PC.calls (some ⟨g54, 0, none⟩) v56 t76 _ (rSmachine_Machine.of_m (hw.up 1)) hx77) ?_
   rintro e wd78 ⟨rfl, hw79⟩
   refine ⟨_, rfl, ?_⟩
   replace hw := hw.call hw79
   clear hs; intro a hs; replace hs := hs.rms [41]
   refine go_pvs 3 [42] [(10, .int .u32 t76)] hs ?_; clear hs; intro a hs
   refine go_end (hK74 _ _ ?_)
   refine go_sk fun K80 hK80 => ?_
   refine go_pvs 3 [] [(45, .pointer (some (⟨g54, 0, none⟩ : Addr)))] hs ?_; clear hs; intro a hs
   replace hw := hw.up 1
   obtain ⟨Aa81, Aa83, cc84, Aa86, cc87, hw⟩ := mSmachine_Machine.open1 hw
   replace hw : St [] w0 _ [box g54 40 ([.pointer Aa81] ++ eSapi_Regs.enc v56.s ++ [.int .u32 v56.pc, .int .i64 v56.status, .slice Aa83 v56.in'.length cc84, .slice Aa86 v56.out.length cc87]), oM mSmemory_Memory Aa81 v56.Memory, rdo (eI .u32) Aa83 cc84 v56.in', own 23 (eI .u32) Aa86 cc87 v56.out, own 26 eSapi_Regs (some ad68) 1 [(t64 : Sapi_Regs)], oM mSrivetref06_Machine Aa29 t26, own 23 (eI .u32) Aa19 cc20 t17, box g2 28 (eSapi_Regs.enc a1.S ++ [.int .u32 (a1.PC.tmod 80), .slice A1_1 a1.In.length c1_1])] := hw
   replace hw := hw.up 1
   obtain ⟨y89, hy90, H⟩ := bind_some H
   replace hw := St.oM_some hw hy90
   obtain ⟨g91, hAg, hwg⟩ := St.one hw
   clear hw; subst hAg; have hw := hwg; clear hwg
   replace hw : St [] w0 _ [own 75 eSmemory_Memory (some (⟨g91, 0, none⟩ : Addr)) 1 [y89], box g54 40 ([.pointer (some (⟨g91, 0, none⟩ : Addr))] ++ eSapi_Regs.enc v56.s ++ [.int .u32 v56.pc, .int .i64 v56.status, .slice Aa83 v56.in'.length cc84, .slice Aa86 v56.out.length cc87]), rdo (eI .u32) Aa83 cc84 v56.in', own 23 (eI .u32) Aa86 cc87 v56.out, own 26 eSapi_Regs (some ad68) 1 [(t64 : Sapi_Regs)], oM mSrivetref06_Machine Aa29 t26, own 23 (eI .u32) Aa19 cc20 t17, box g2 28 (eSapi_Regs.enc a1.S ++ [.int .u32 (a1.PC.tmod 80), .slice A1_1 a1.In.length c1_1])] := hw
   refine go_run hs (by rfl) (x_bld (g := g54) (o := 0) (p := (⟨g54, 0, none⟩ : Addr)) (v := .pointer (some (⟨g91, 0, none⟩ : Addr))) (hw.up 1)) [45] ?_; clear hs; intro a hs
   obtain ⟨t93, hx94, H⟩ := bind_some H
   refine go_call hs (by rfl) (memory_Memory_Words.calls (some (⟨g91, 0, none⟩ : Addr)) y89 t93 _ (Rd.of_own (hw.up 0)) hx94) ?_
   rintro e wd97 ⟨Aa95, cc96, rfl, hw98⟩
   refine ⟨_, rfl, ?_⟩
   replace hw := hw.call hw98
   clear hs; intro a hs; replace hs := hs.rms [46]
   refine go_pvs 6 [47] [(11, .slice Aa95 t93.length cc96)] hs ?_; clear hs; intro a hs
   refine go_end (hK80 _ _ ?_)
   refine go_sk fun K100 hK100 => ?_
   refine go_pvs 1 [] [(48, .pointer (some (⟨g54, 0, none⟩ : Addr)))] hs ?_; clear hs; intro a hs
   replace hw := hw.up 1
   replace hw := St.oM_back (m := mSmemory_Memory) (A := (some (⟨g91, 0, none⟩ : Addr))) (x := y89) hw hy90
   replace hw := hw.up 4
   replace hw := hw.up 4
   replace hw := hw.up 2
   replace hw := hw.up 4
   replace hw := mSmachine_Machine.close (x := v56) hw
   obtain ⟨t102, hx103, H⟩ := bind_some H
   refine go_call hs (by rfl) (machine_Machine_Out.calls (some ⟨g54, 0, none⟩) v56 t102 _ (rSmachine_Machine.of_m (hw.up 0)) hx103) ?_
   rintro e wd106 ⟨Aa104, cc105, rfl, hw107⟩
   refine ⟨_, rfl, ?_⟩
   replace hw := hw.call hw107
   clear hs; intro a hs; replace hs := hs.rms [48]
   refine go_pvs 3 [49] [(12, .slice Aa104 t102.length cc105)] hs ?_; clear hs; intro a hs
   refine go_end (hK100 _ _ ?_)
   refine go_sk fun K109 hK109 => ?_
   refine go_pvs 1 [] [(50, .pointer (some (⟨g54, 0, none⟩ : Addr)))] hs ?_; clear hs; intro a hs
   obtain ⟨t111, hx112, H⟩ := bind_some H
   refine go_call hs (by rfl) (machine_Machine_Status.calls (some ⟨g54, 0, none⟩) v56 t111 _ (rSmachine_Machine.of_m (hw.up 1)) hx112) ?_
   rintro e wd113 ⟨rfl, hw114⟩
   refine ⟨_, rfl, ?_⟩
   replace hw := hw.call hw114
   clear hs; intro a hs; replace hs := hs.rms [50]
   refine go_pvs 3 [51] [(13, .int .i64 t111)] hs ?_; clear hs; intro a hs
   refine go_end (hK109 _ _ ?_)
   refine go_sk fun K115 hK115 => ?_
   refine go_pvs 1 [] [(52, .pointer (some (⟨g54, 0, none⟩ : Addr)))] hs ?_; clear hs; intro a hs
   replace hw := hw.up 1
   obtain ⟨ks116, hgks116, hstks116, hbkks116⟩ := hw.lend 1
   obtain ⟨⟨t117, t118⟩, hx119, H⟩ := bind_some H
   refine go_call hs (by rfl) (machine_Machine_Step.calls ks116 (some ⟨g54, 0, none⟩) v56 (t117, t118) _ hgks116 hx119) ?_
   rintro e wd120 ⟨rfl, hw121⟩
   refine ⟨_, rfl, ?_⟩
   replace hw := hbkks116 _ _ hw121
   replace hw : St [] w0 wd120 [mSmachine_Machine (some ⟨g54, 0, none⟩) t118, own 23 (eI .u32) Aa104 cc105 t102, own 23 (eI .u32) Aa95 cc96 t93, own 26 eSapi_Regs (some ad68) 1 [(t64 : Sapi_Regs)], oM mSrivetref06_Machine Aa29 t26, own 23 (eI .u32) Aa19 cc20 t17, box g2 28 (eSapi_Regs.enc a1.S ++ [.int .u32 (a1.PC.tmod 80), .slice A1_1 a1.In.length c1_1])] := hw
   clear hs; intro a hs; replace hs := hs.rms [52]
   refine go_pvs 3 [53] [(14, .int .i64 t117)] hs ?_; clear hs; intro a hs
   refine go_end (hK115 _ _ ?_)
   refine go_seq_k fun K122 hK122 => ?_
   have hJ4 : ∀ (a : Act) (w : World), Slots a 109 [(6, .pointer (some (⟨g54, 0, none⟩ : Addr))), (8, .int .i64 v57), (9, .pointer (some ad68)), (10, .int .u32 t76), (11, .slice Aa95 t93.length cc96), (12, .slice Aa104 t102.length cc105), (13, .int .i64 t111), (14, .int .i64 t117)] → St [] w0 w [mSmachine_Machine (some ⟨g54, 0, none⟩) t118, own 23 (eI .u32) Aa104 cc105 t102, own 23 (eI .u32) Aa95 cc96 t93, own 26 eSapi_Regs (some ad68) 1 [(t64 : Sapi_Regs)], oM mSrivetref06_Machine Aa29 t26, own 23 (eI .u32) Aa19 cc20 t17, box g2 28 (eSapi_Regs.enc a1.S ++ [.int .u32 (a1.PC.tmod 80), .slice A1_1 a1.In.length c1_1])] → rivetlaw06_MachineStops.j4 t111 t117 t118 t64 v57 t76 t93 t102 = some o → K122 a w := by
    intro a w hs hw H
    unfold rivetlaw06_MachineStops.j4 at H
    refine hK122 _ _ ?_
    refine go_sp [] [(15, .bool (t111 != 0))] hs ?_; clear hs; intro a hs
    refine go_sp [] [(16, .bool (decide (t117 > 1)))] hs ?_; clear hs; intro a hs
    refine go_seq_k fun K137 hK137 => ?_
    have hJ6 : ∀ (v246 : Bool) (a : Act) (w : World), Slots a 109 [(6, .pointer (some (⟨g54, 0, none⟩ : Addr))), (8, .int .i64 v57), (13, .int .i64 t111), (14, .int .i64 t117), (15, .bool v246)] → St [] w0 w [mSmachine_Machine (some ⟨g54, 0, none⟩) t118, own 23 (eI .u32) Aa104 cc105 t102, own 23 (eI .u32) Aa95 cc96 t93, own 26 eSapi_Regs (some ad68) 1 [(t64 : Sapi_Regs)], oM mSrivetref06_Machine Aa29 t26, own 23 (eI .u32) Aa19 cc20 t17, box g2 28 (eSapi_Regs.enc a1.S ++ [.int .u32 (a1.PC.tmod 80), .slice A1_1 a1.In.length c1_1])] → rivetlaw06_MachineStops.j6 v57 t118 t117 t111 v246 = some o → K137 a w := by
     intro v246 a w hs hw H
     unfold rivetlaw06_MachineStops.j6 at H
     refine hK137 _ _ ?_
     refine go_seq_k fun K247 hK247 => ?_
     have hJ7 : ∀ (v249 : Bool) (a : Act) (w : World), Slots a 109 [(6, .pointer (some (⟨g54, 0, none⟩ : Addr))), (8, .int .i64 v57), (108, .bool v249)] → St [] w0 w [mSmachine_Machine (some ⟨g54, 0, none⟩) t118, own 23 (eI .u32) Aa104 cc105 t102, own 23 (eI .u32) Aa95 cc96 t93, own 26 eSapi_Regs (some ad68) 1 [(t64 : Sapi_Regs)], oM mSrivetref06_Machine Aa29 t26, own 23 (eI .u32) Aa19 cc20 t17, box g2 28 (eSapi_Regs.enc a1.S ++ [.int .u32 (a1.PC.tmod 80), .slice A1_1 a1.In.length c1_1])] → rivetlaw06_MachineStops.j7 v57 t118 v249 = some o → K247 a w := by
      intro v249 a w hs hw H
      unfold rivetlaw06_MachineStops.j7 at H
      refine hK247 _ _ ?_
      refine go_cond hs v249 (fun hc => ?_) fun hc => ?_
      ·replace H := ite_t H hc
       have hb250 := hc
       rw [hb250] at hs
       refine go_sp [6, 8, 108] [(4, .bool false)] hs ?_; clear hs; intro a hs
       refine wp_ret ?_
       refine ib_ret ?_
       refine th_ret ?_
       refine th_ret ?_
       refine ib_ret ?_
       refine th_ret ?_
       rw [← hr55 _ (Option.some.inj H).symm] at HX55
       replace H : some false = some r := HX55
       obtain rfl := Option.some.inj H
       refine ret1 (t := 4) (v := .bool false) hs (by kernel_rfl) (by kernel_rfl) ?_
       exact ⟨rfl, hw.only 0⟩
      ·replace H := ite_f H (ff hc)
       have hb252 := hc
       rw [hb252] at hs
       refine wp_skip ?_
       refine ib_norm ?_
       replace hw := hw.up 6
       replace hw := hw.up 6
       replace hw := hw.up 6
       replace hw := hw.up 3
       replace hw := hw.only 4
       exact hJ8 t118 _ _ hs.kx hw H
     refine go_region ?_
     refine go_pvs 2 [15] [(104, .bool v246)] hs ?_; clear hs; intro a hs
     cases hb248 : v246
     ·replace H := ite_f H (ff hb248)
      rw [hb248] at hs
      refine go_pvs 6 [13, 14, 104] [(108, .bool false)] hs ?_; clear hs; intro a hs
      refine go_end ?_
      replace hw := hw.up 6
      replace hw := hw.up 6
      replace hw := hw.up 6
      replace hw := hw.up 6
      replace hw := hw.up 6
      replace hw := hw.up 6
      replace hw := hw.up 6
      exact hJ7 false _ _ hs.kx hw H
     ·replace H := ite_t H hb248
      rw [hb248] at hs
      refine go_pvs 6 [13, 14, 104] [(108, .bool (t117 != t111))] hs ?_; clear hs; intro a hs
      refine go_end ?_
      replace hw := hw.up 6
      replace hw := hw.up 6
      replace hw := hw.up 6
      replace hw := hw.up 6
      replace hw := hw.up 6
      replace hw := hw.up 6
      replace hw := hw.up 6
      exact hJ7 (t117 != t111) _ _ hs.kx hw H
    refine go_seq_k fun K138 hK138 => ?_
    have hJ5 : ∀ (v241 : Bool) (v242 : Bool) (a : Act) (w : World), Slots a 109 [(6, .pointer (some (⟨g54, 0, none⟩ : Addr))), (8, .int .i64 v57), (13, .int .i64 t111), (14, .int .i64 t117), (15, .bool v241), (102, .bool v242)] → St [] w0 w [mSmachine_Machine (some ⟨g54, 0, none⟩) t118, own 23 (eI .u32) Aa104 cc105 t102, own 23 (eI .u32) Aa95 cc96 t93, own 26 eSapi_Regs (some ad68) 1 [(t64 : Sapi_Regs)], oM mSrivetref06_Machine Aa29 t26, own 23 (eI .u32) Aa19 cc20 t17, box g2 28 (eSapi_Regs.enc a1.S ++ [.int .u32 (a1.PC.tmod 80), .slice A1_1 a1.In.length c1_1])] → rivetlaw06_MachineStops.j5 v57 t118 t117 t111 v241 v242 = some o → K138 a w := by
     intro v241 v242 a w hs hw H
     unfold rivetlaw06_MachineStops.j5 at H
     refine hK138 _ _ ?_
     refine go_cond hs v242 (fun hc => ?_) fun hc => ?_
     ·replace H := ite_t H hc
      have hb243 := hc
      rw [hb243] at hs
      refine go_sp [6, 8, 13, 14, 15, 102] [(4, .bool false)] hs ?_; clear hs; intro a hs
      refine wp_ret ?_
      refine th_ret ?_
      refine ib_ret ?_
      refine th_ret ?_
      refine th_ret ?_
      refine ib_ret ?_
      refine th_ret ?_
      rw [← hr55 _ (Option.some.inj H).symm] at HX55
      replace H : some false = some r := HX55
      obtain rfl := Option.some.inj H
      refine ret1 (t := 4) (v := .bool false) hs (by kernel_rfl) (by kernel_rfl) ?_
      exact ⟨rfl, hw.only 0⟩
     ·replace H := ite_f H (ff hc)
      have hb245 := hc
      rw [hb245] at hs
      refine wp_skip ?_
      replace hw := hw.up 6
      replace hw := hw.up 6
      replace hw := hw.up 6
      replace hw := hw.up 6
      replace hw := hw.up 6
      replace hw := hw.up 6
      replace hw := hw.up 6
      exact hJ6 v241 _ _ hs.kx hw H
    refine c_region [(true, [0, 1, 2, 3, 4, 5, 7], 6), (true, [8, 9, 10, 12], 11), (true, [13, 14, 15, 16, 17, 18, 19, 21], 20), (true, [], 22), (true, [23, 24, 25, 26, 28], 27), (true, [], 29)] [30, 31, 32] (by kernel_rfl) (by kernel_rfl) (fun c a d v w h => by cases d <;> exact h) ?_
    refine c_seg ?_
    refine c_pvs [0, 1] [2, 3, 4, 5, 7] [] [(71, .bool (t111 != 0))] hs ?_; clear hs; intro a hs
    cases hb139 : (t111 != 0)
    ·replace H := ite_t H (bne_eq_false_iff_eq.1 hb139)
     rw [hb139] at hs
     refine c_pvs [2, 3, 4] [5, 7] [16, 71] [(74, .bool (decide (t117 > 1)))] hs ?_; clear hs; intro a hs
     cases hb140 : (decide (t117 > 1))
     ·replace H := ite_f H (of_decide_eq_false hb140)
      rw [hb140] at hs
      refine c_pvs [5, 7] [] [9] [(75, undef), (77, undef)] hs ?_; clear hs; intro a hs
      refine c_end ?_
      intro wq hbq
      replace hw := hw.behind hbq
      have hbc := Below.refl wq.heap.size wq
      refine p_pvs [6] [] [75] [(76, undef)] hs ?_; clear hs; intro a hs
      refine c_done ⟨bl_of hbq hbc, ?_⟩
      clear hbc hbq
      refine c_seg ?_
      refine c_pvs [8, 9, 10, 12] [] [10, 76, 77] [(79, undef), (80, undef), (82, undef)] hs ?_; clear hs; intro a hs
      refine c_end ?_
      intro wq hbq
      replace hw := hw.behind hbq
      have hbc := Below.refl wq.heap.size wq
      refine p_pvs [11] [] [80] [(81, undef)] hs ?_; clear hs; intro a hs
      refine c_done ⟨bl_of hbq hbc, ?_⟩
      clear hbc hbq
      refine c_seg ?_
      refine c_pvs [13, 14, 15, 16, 17, 18, 19, 21] [] [11, 79, 81, 82] [(85, undef), (89, undef), (91, undef)] hs ?_; clear hs; intro a hs
      refine c_end ?_
      intro wq hbq
      replace hw := hw.behind hbq
      have hbc := Below.refl wq.heap.size wq
      refine p_pvs [20] [] [89] [(90, undef)] hs ?_; clear hs; intro a hs
      refine c_done ⟨bl_of hbq hbc, ?_⟩
      clear hbc hbq
      refine c_seg ?_
      refine c_end ?_
      intro wq hbq
      replace hw := hw.behind hbq
      have hbc := Below.refl wq.heap.size wq
      refine p_pvs [22] [] [90, 91] [(92, undef)] hs ?_; clear hs; intro a hs
      refine c_done ⟨bl_of hbq hbc, ?_⟩
      clear hbc hbq
      refine c_seg ?_
      refine c_pvs [23, 24, 25, 26, 28] [] [12, 85, 92] [(95, undef), (96, undef), (98, undef)] hs ?_; clear hs; intro a hs
      refine c_end ?_
      intro wq hbq
      replace hw := hw.behind hbq
      have hbc := Below.refl wq.heap.size wq
      refine p_pvs [27] [] [96] [(97, undef)] hs ?_; clear hs; intro a hs
      refine c_done ⟨bl_of hbq hbc, ?_⟩
      clear hbc hbq
      refine c_seg ?_
      refine c_end ?_
      intro wq hbq
      replace hw := hw.behind hbq
      have hbc := Below.refl wq.heap.size wq
      refine p_pvs [29] [] [97, 98] [(99, undef)] hs ?_; clear hs; intro a hs
      refine c_done ⟨bl_of hbq hbc, ?_⟩
      clear hbc hbq
      refine c_last ?_
      refine c_pvs [30, 31, 32] [] [74, 95, 99] [(102, .bool false)] hs ?_; clear hs; intro a hs
      refine c_end ?_
      intro wq hbq
      replace hw := hw.behind hbq
      replace hw := hw.up 6
      replace hw := hw.up 6
      replace hw := hw.up 6
      replace hw := hw.up 6
      replace hw := hw.up 6
      replace hw := hw.up 6
      replace hw := hw.up 6
      exact hJ5 false false _ _ hs.kx hw H
     ·replace H := ite_t H (of_decide_eq_true hb140)
      rw [hb140] at hs
      refine c_pvs [5] [7] [] [(75, .pointer (some (⟨g54, 0, none⟩ : Addr)))] hs ?_; clear hs; intro a hs
      refine c_run hs (by rfl) (fun wx hbx => (x_lds (off := 0) (p := ad68) (cs := (eSapi_Regs.enc (t64 : Sapi_Regs))) ((Rd.of_own (hw.up 3)).below hbx) (one_ok (t64 : Sapi_Regs)) (one_at _ _))) [9] ?_; clear hs; intro a hs
      refine c_end ?_
      intro wq hbq
      replace hw := hw.behind hbq
      have hbc := Below.refl wq.heap.size wq
      obtain ⟨t142, hx143, H⟩ := bind_some H
      refine p_call hs (by rfl) (machine_Machine_Regs.calls (some ⟨g54, 0, none⟩) t118 t142 _ (rSmachine_Machine.of_m (hw.up 0)) hx143) ?_
      rintro e wd144 ⟨rfl, hw145⟩
      refine ⟨_, rfl, ?_⟩
      replace hbc := hw145.below
      replace hw := hw.call hw145
      clear hs; intro a hs; replace hs := hs.rms [75]
      refine c_done ⟨bl_of hbq hbc, ?_⟩
      clear hbc hbq
      refine c_seg ?_
      refine c_run hs (by rfl) (fun wx hbx => (x_neq (xs := (eSapi_Regs.enc t142).toArray) (ys := (eSapi_Regs.enc (t64 : Sapi_Regs)).toArray) (r := ((decide (t142.R = ((t64 : Sapi_Regs).R))) && ((t142.H == ((t64 : Sapi_Regs).H)) && ((t142.N == ((t64 : Sapi_Regs).N)) && ((t142.Z == ((t64 : Sapi_Regs).Z)) && ((t142.C == ((t64 : Sapi_Regs).C)) && ((t142.V == ((t64 : Sapi_Regs).V)) && true))))))) (by kernel_rfl) (by kernel_rfl) (by kernel_rfl) (eq_struct Try.underlying26 (by kernel_rfl) (eq_cons (a := .agg (eA24.enc t142.R).toArray) (b := .agg (eA24.enc ((t64 : Sapi_Regs).R)).toArray) (r := (decide (t142.R = ((t64 : Sapi_Regs).R)))) (s := ((t142.H == ((t64 : Sapi_Regs).H)) && ((t142.N == ((t64 : Sapi_Regs).N)) && ((t142.Z == ((t64 : Sapi_Regs).Z)) && ((t142.C == ((t64 : Sapi_Regs).C)) && ((t142.V == ((t64 : Sapi_Regs).V)) && true)))))) (by kernel_rfl) (part_pv (by kernel_rfl)) (part_pv (by kernel_rfl)) (eq_vec (e := 23) (k' := .u32) (k := .u32) t142.R ((t64 : Sapi_Regs).R) (by kernel_rfl) (by kernel_rfl) (by kernel_rfl) (by kernel_rfl) (by kernel_rfl)) (eq_cons (a := .int .u32 t142.H) (b := .int .u32 ((t64 : Sapi_Regs).H)) (r := (t142.H == ((t64 : Sapi_Regs).H))) (s := ((t142.N == ((t64 : Sapi_Regs).N)) && ((t142.Z == ((t64 : Sapi_Regs).Z)) && ((t142.C == ((t64 : Sapi_Regs).C)) && ((t142.V == ((t64 : Sapi_Regs).V)) && true))))) (by kernel_rfl) (part_pv (by kernel_rfl)) (part_pv (by kernel_rfl)) (eq_pv (by kernel_rfl)) (eq_cons (a := .bool t142.N) (b := .bool ((t64 : Sapi_Regs).N)) (r := (t142.N == ((t64 : Sapi_Regs).N))) (s := ((t142.Z == ((t64 : Sapi_Regs).Z)) && ((t142.C == ((t64 : Sapi_Regs).C)) && ((t142.V == ((t64 : Sapi_Regs).V)) && true)))) (by kernel_rfl) (part_pv (by kernel_rfl)) (part_pv (by kernel_rfl)) (eq_pv (by kernel_rfl)) (eq_cons (a := .bool t142.Z) (b := .bool ((t64 : Sapi_Regs).Z)) (r := (t142.Z == ((t64 : Sapi_Regs).Z))) (s := ((t142.C == ((t64 : Sapi_Regs).C)) && ((t142.V == ((t64 : Sapi_Regs).V)) && true))) (by kernel_rfl) (part_pv (by kernel_rfl)) (part_pv (by kernel_rfl)) (eq_pv (by kernel_rfl)) (eq_cons (a := .bool t142.C) (b := .bool ((t64 : Sapi_Regs).C)) (r := (t142.C == ((t64 : Sapi_Regs).C))) (s := ((t142.V == ((t64 : Sapi_Regs).V)) && true)) (by kernel_rfl) (part_pv (by kernel_rfl)) (part_pv (by kernel_rfl)) (eq_pv (by kernel_rfl)) (eq_cons (a := .bool t142.V) (b := .bool ((t64 : Sapi_Regs).V)) (r := (t142.V == ((t64 : Sapi_Regs).V))) (s := true) (by kernel_rfl) (part_pv (by kernel_rfl)) (part_pv (by kernel_rfl)) (eq_pv (by kernel_rfl)) eq_nil))))))))) [76, 77] ?_; clear hs; intro a hs
      refine c_pvs [9] [10, 12] [78] [(79, .bool (!((decide (t142.R = ((t64 : Sapi_Regs).R))) && ((t142.H == ((t64 : Sapi_Regs).H)) && ((t142.N == ((t64 : Sapi_Regs).N)) && ((t142.Z == ((t64 : Sapi_Regs).Z)) && ((t142.C == ((t64 : Sapi_Regs).C)) && ((t142.V == ((t64 : Sapi_Regs).V)) && true))))))))] hs ?_; clear hs; intro a hs
      cases hb146 : (!((decide (t142.R = ((t64 : Sapi_Regs).R))) && ((t142.H == ((t64 : Sapi_Regs).H)) && ((t142.N == ((t64 : Sapi_Regs).N)) && ((t142.Z == ((t64 : Sapi_Regs).Z)) && ((t142.C == ((t64 : Sapi_Regs).C)) && ((t142.V == ((t64 : Sapi_Regs).V)) && true)))))))
      ·replace H := ite_f H (ff hb146)
       rw [hb146] at hs
       refine c_pvs [10, 12] [] [10] [(80, .pointer (some (⟨g54, 0, none⟩ : Addr))), (82, .int .u32 t76)] hs ?_; clear hs; intro a hs
       refine c_end ?_
       intro wq hbq
       replace hw := hw.behind hbq
       have hbc := Below.refl wq.heap.size wq
       obtain ⟨t148, hx149, H⟩ := bind_some H
       refine p_call hs (by rfl) (machine_Machine_PC.calls (some ⟨g54, 0, none⟩) t118 t148 _ (rSmachine_Machine.of_m (hw.up 0)) hx149) ?_
       rintro e wd150 ⟨rfl, hw151⟩
       refine ⟨_, rfl, ?_⟩
       replace hbc := hw151.below
       replace hw := hw.call hw151
       clear hs; intro a hs; replace hs := hs.rms [80]
       refine c_done ⟨bl_of hbq hbc, ?_⟩
       clear hbc hbq
       refine c_seg ?_
       refine c_pvs [13, 14, 15] [16, 17, 18, 19, 21] [79, 81, 82] [(85, .bool (t148 != t76))] hs ?_; clear hs; intro a hs
       cases hb152 : (t148 != t76)
       ·replace H := ite_t H (bne_eq_false_iff_eq.1 hb152)
        rw [hb152] at hs
        refine c_pvs [16, 17, 18] [19, 21] [] [(88, .pointer (some (⟨g54, 0, none⟩ : Addr)))] hs ?_; clear hs; intro a hs
        obtain ⟨Aa153, Aa155, cc156, Aa158, cc159, hw⟩ := mSmachine_Machine.open1 hw
        replace hw : St [] w0 _ [box g54 40 ([.pointer Aa153] ++ eSapi_Regs.enc t118.s ++ [.int .u32 t118.pc, .int .i64 t118.status, .slice Aa155 t118.in'.length cc156, .slice Aa158 t118.out.length cc159]), oM mSmemory_Memory Aa153 t118.Memory, rdo (eI .u32) Aa155 cc156 t118.in', own 23 (eI .u32) Aa158 cc159 t118.out, own 23 (eI .u32) Aa104 cc105 t102, own 23 (eI .u32) Aa95 cc96 t93, own 26 eSapi_Regs (some ad68) 1 [(t64 : Sapi_Regs)], oM mSrivetref06_Machine Aa29 t26, own 23 (eI .u32) Aa19 cc20 t17, box g2 28 (eSapi_Regs.enc a1.S ++ [.int .u32 (a1.PC.tmod 80), .slice A1_1 a1.In.length c1_1])] := hw
        replace hw := hw.up 1
        obtain ⟨y161, hy162, H⟩ := bind_some H
        replace hw := St.oM_some hw hy162
        obtain ⟨g163, hAg, hwg⟩ := St.one hw
        clear hw; subst hAg; have hw := hwg; clear hwg
        replace hw : St [] w0 _ [own 75 eSmemory_Memory (some (⟨g163, 0, none⟩ : Addr)) 1 [y161], box g54 40 ([.pointer (some (⟨g163, 0, none⟩ : Addr))] ++ eSapi_Regs.enc t118.s ++ [.int .u32 t118.pc, .int .i64 t118.status, .slice Aa155 t118.in'.length cc156, .slice Aa158 t118.out.length cc159]), rdo (eI .u32) Aa155 cc156 t118.in', own 23 (eI .u32) Aa158 cc159 t118.out, own 23 (eI .u32) Aa104 cc105 t102, own 23 (eI .u32) Aa95 cc96 t93, own 26 eSapi_Regs (some ad68) 1 [(t64 : Sapi_Regs)], oM mSrivetref06_Machine Aa29 t26, own 23 (eI .u32) Aa19 cc20 t17, box g2 28 (eSapi_Regs.enc a1.S ++ [.int .u32 (a1.PC.tmod 80), .slice A1_1 a1.In.length c1_1])] := hw
        refine c_run hs (by rfl) (fun wx hbx => (x_bld (g := g54) (o := 0) (p := (⟨g54, 0, none⟩ : Addr)) (v := .pointer (some (⟨g163, 0, none⟩ : Addr))) ((hw.behind hbx).up 1))) [88] ?_; clear hs; intro a hs
        refine c_pvs [21] [] [11] [(91, .slice Aa95 t93.length cc96)] hs ?_; clear hs; intro a hs
        refine c_end ?_
        intro wq hbq
        replace hw := hw.behind hbq
        have hbc := Below.refl wq.heap.size wq
        obtain ⟨t165, hx166, H⟩ := bind_some H
        refine p_call hs (by rfl) (memory_Memory_Words.calls (some (⟨g163, 0, none⟩ : Addr)) y161 t165 _ (Rd.of_own (hw.up 0)) hx166) ?_
        rintro e wd169 ⟨Aa167, cc168, rfl, hw170⟩
        refine ⟨_, rfl, ?_⟩
        replace hbc := hw170.below
        replace hw := hw.call hw170
        clear hs; intro a hs; replace hs := hs.rms [89]
        refine c_done ⟨bl_of hbq hbc, ?_⟩
        clear hbc hbq
        refine c_seg ?_
        refine c_end ?_
        intro wq hbq
        replace hw := hw.behind hbq
        have hbc := Below.refl wq.heap.size wq
        obtain ⟨t173, hx174, H⟩ := bind_some H
        refine p_call hs (by rfl) (rivetref05_Same.calls Aa167 cc168 t165 Aa95 cc96 t93 t173 _ (Rd.of_own (hw.up 0)) (Rd.of_own (hw.up 6)) hx174) ?_
        rintro e wd175 ⟨rfl, hw176⟩
        refine ⟨_, rfl, ?_⟩
        replace hbc := hw176.below
        replace hw := hw.call hw176
        clear hs; intro a hs; replace hs := hs.rms [90, 91]
        refine c_done ⟨bl_of hbq hbc, ?_⟩
        clear hbc hbq
        refine c_seg ?_
        refine c_pvs [23, 24, 25] [26, 28] [85, 92] [(95, .bool (!t173))] hs ?_; clear hs; intro a hs
        cases hb177 : (!t173)
        ·replace H := ite_t H (nf hb177)
         rw [hb177] at hs
         refine c_pvs [26, 28] [] [12] [(96, .pointer (some (⟨g54, 0, none⟩ : Addr))), (98, .slice Aa104 t102.length cc105)] hs ?_; clear hs; intro a hs
         refine c_end ?_
         intro wq hbq
         replace hw := hw.behind hbq
         have hbc := Below.refl wq.heap.size wq
         replace hw := hw.up 1
         replace hw := St.oM_back (m := mSmemory_Memory) (A := (some (⟨g163, 0, none⟩ : Addr))) (x := y161) hw hy162
         replace hw := hw.up 4
         replace hw := hw.up 4
         replace hw := hw.up 2
         replace hw := hw.up 4
         replace hw := mSmachine_Machine.close (x := t118) hw
         obtain ⟨t179, hx180, H⟩ := bind_some H
         refine p_call hs (by rfl) (machine_Machine_Out.calls (some ⟨g54, 0, none⟩) t118 t179 _ (rSmachine_Machine.of_m (hw.up 0)) hx180) ?_
         rintro e wd183 ⟨Aa181, cc182, rfl, hw184⟩
         refine ⟨_, rfl, ?_⟩
         replace hbc := hw184.below
         replace hw := hw.call hw184
         clear hs; intro a hs; replace hs := hs.rms [96]
         refine c_done ⟨bl_of hbq hbc, ?_⟩
         clear hbc hbq
         refine c_seg ?_
         refine c_end ?_
         intro wq hbq
         replace hw := hw.behind hbq
         have hbc := Below.refl wq.heap.size wq
         obtain ⟨t187, hx188, H⟩ := bind_some H
         refine p_call hs (by rfl) (rivetref05_Same.calls Aa181 cc182 t179 Aa104 cc105 t102 t187 _ (Rd.of_own (hw.up 0)) (Rd.of_own (hw.up 3)) hx188) ?_
         rintro e wd189 ⟨rfl, hw190⟩
         refine ⟨_, rfl, ?_⟩
         replace hbc := hw190.below
         replace hw := hw.call hw190
         clear hs; intro a hs; replace hs := hs.rms [97, 98]
         refine c_done ⟨bl_of hbq hbc, ?_⟩
         clear hbc hbq
         refine c_last ?_
         refine c_pvs [30, 31, 32] [] [74, 95, 99] [(102, .bool (!t187))] hs ?_; clear hs; intro a hs
         refine c_end ?_
         intro wq hbq
         replace hw := hw.behind hbq
         replace hw := hw.up 8
         replace hw := hw.up 8
         replace hw := hw.up 8
         replace hw := hw.up 8
         replace hw := hw.up 8
         replace hw := hw.up 8
         replace hw := hw.up 7
         replace hw := hw.only 7
         exact hJ5 false (!t187) _ _ hs.kx hw H
        ·replace H := ite_f H (ff (nt hb177))
         rw [hb177] at hs
         refine c_pvs [26, 28] [] [12] [(96, undef), (98, undef)] hs ?_; clear hs; intro a hs
         refine c_end ?_
         intro wq hbq
         replace hw := hw.behind hbq
         have hbc := Below.refl wq.heap.size wq
         refine p_pvs [27] [] [96] [(97, undef)] hs ?_; clear hs; intro a hs
         refine c_done ⟨bl_of hbq hbc, ?_⟩
         clear hbc hbq
         refine c_seg ?_
         refine c_end ?_
         intro wq hbq
         replace hw := hw.behind hbq
         have hbc := Below.refl wq.heap.size wq
         refine p_pvs [29] [] [97, 98] [(99, undef)] hs ?_; clear hs; intro a hs
         refine c_done ⟨bl_of hbq hbc, ?_⟩
         clear hbc hbq
         refine c_last ?_
         refine c_pvs [30, 31, 32] [] [74, 95, 99] [(102, .bool true)] hs ?_; clear hs; intro a hs
         refine c_end ?_
         intro wq hbq
         replace hw := hw.behind hbq
         replace hw := hw.up 1
         replace hw := St.oM_back (m := mSmemory_Memory) (A := (some (⟨g163, 0, none⟩ : Addr))) (x := y161) hw hy162
         replace hw := hw.up 4
         replace hw := hw.up 4
         replace hw := hw.up 2
         replace hw := hw.up 4
         replace hw := mSmachine_Machine.close (x := t118) hw
         replace hw := hw.up 7
         replace hw := hw.up 7
         replace hw := hw.up 7
         replace hw := hw.up 7
         replace hw := hw.up 7
         replace hw := hw.up 7
         replace hw := hw.up 6
         replace hw := hw.only 7
         exact hJ5 false true _ _ hs.kx hw H
       ·replace H := ite_f H (bne_iff_ne.1 hb152)
        rw [hb152] at hs
        refine c_pvs [16, 17, 18, 19, 21] [] [11] [(89, undef), (91, undef)] hs ?_; clear hs; intro a hs
        refine c_end ?_
        intro wq hbq
        replace hw := hw.behind hbq
        have hbc := Below.refl wq.heap.size wq
        refine p_pvs [20] [] [89] [(90, undef)] hs ?_; clear hs; intro a hs
        refine c_done ⟨bl_of hbq hbc, ?_⟩
        clear hbc hbq
        refine c_seg ?_
        refine c_end ?_
        intro wq hbq
        replace hw := hw.behind hbq
        have hbc := Below.refl wq.heap.size wq
        refine p_pvs [22] [] [90, 91] [(92, undef)] hs ?_; clear hs; intro a hs
        refine c_done ⟨bl_of hbq hbc, ?_⟩
        clear hbc hbq
        refine c_seg ?_
        refine c_pvs [23, 24, 25, 26, 28] [] [12, 85, 92] [(95, .bool true), (96, undef), (98, undef)] hs ?_; clear hs; intro a hs
        refine c_end ?_
        intro wq hbq
        replace hw := hw.behind hbq
        have hbc := Below.refl wq.heap.size wq
        refine p_pvs [27] [] [96] [(97, undef)] hs ?_; clear hs; intro a hs
        refine c_done ⟨bl_of hbq hbc, ?_⟩
        clear hbc hbq
        refine c_seg ?_
        refine c_end ?_
        intro wq hbq
        replace hw := hw.behind hbq
        have hbc := Below.refl wq.heap.size wq
        refine p_pvs [29] [] [97, 98] [(99, undef)] hs ?_; clear hs; intro a hs
        refine c_done ⟨bl_of hbq hbc, ?_⟩
        clear hbc hbq
        refine c_last ?_
        refine c_pvs [30, 31, 32] [] [74, 95, 99] [(102, .bool true)] hs ?_; clear hs; intro a hs
        refine c_end ?_
        intro wq hbq
        replace hw := hw.behind hbq
        replace hw := hw.up 6
        replace hw := hw.up 6
        replace hw := hw.up 6
        replace hw := hw.up 6
        replace hw := hw.up 6
        replace hw := hw.up 6
        replace hw := hw.up 6
        exact hJ5 false true _ _ hs.kx hw H
      ·replace H := ite_t H hb146
       rw [hb146] at hs
       refine c_pvs [10, 12] [] [10] [(80, undef), (82, undef)] hs ?_; clear hs; intro a hs
       refine c_end ?_
       intro wq hbq
       replace hw := hw.behind hbq
       have hbc := Below.refl wq.heap.size wq
       refine p_pvs [11] [] [80] [(81, undef)] hs ?_; clear hs; intro a hs
       refine c_done ⟨bl_of hbq hbc, ?_⟩
       clear hbc hbq
       refine c_seg ?_
       refine c_pvs [13, 14, 15, 16, 17, 18, 19, 21] [] [11, 79, 81, 82] [(85, .bool true), (89, undef), (91, undef)] hs ?_; clear hs; intro a hs
       refine c_end ?_
       intro wq hbq
       replace hw := hw.behind hbq
       have hbc := Below.refl wq.heap.size wq
       refine p_pvs [20] [] [89] [(90, undef)] hs ?_; clear hs; intro a hs
       refine c_done ⟨bl_of hbq hbc, ?_⟩
       clear hbc hbq
       refine c_seg ?_
       refine c_end ?_
       intro wq hbq
       replace hw := hw.behind hbq
       have hbc := Below.refl wq.heap.size wq
       refine p_pvs [22] [] [90, 91] [(92, undef)] hs ?_; clear hs; intro a hs
       refine c_done ⟨bl_of hbq hbc, ?_⟩
       clear hbc hbq
       refine c_seg ?_
       refine c_pvs [23, 24, 25, 26, 28] [] [12, 85, 92] [(95, .bool true), (96, undef), (98, undef)] hs ?_; clear hs; intro a hs
       refine c_end ?_
       intro wq hbq
       replace hw := hw.behind hbq
       have hbc := Below.refl wq.heap.size wq
       refine p_pvs [27] [] [96] [(97, undef)] hs ?_; clear hs; intro a hs
       refine c_done ⟨bl_of hbq hbc, ?_⟩
       clear hbc hbq
       refine c_seg ?_
       refine c_end ?_
       intro wq hbq
       replace hw := hw.behind hbq
       have hbc := Below.refl wq.heap.size wq
       refine p_pvs [29] [] [97, 98] [(99, undef)] hs ?_; clear hs; intro a hs
       refine c_done ⟨bl_of hbq hbc, ?_⟩
       clear hbc hbq
       refine c_last ?_
       refine c_pvs [30, 31, 32] [] [74, 95, 99] [(102, .bool true)] hs ?_; clear hs; intro a hs
       refine c_end ?_
       intro wq hbq
       replace hw := hw.behind hbq
       replace hw := hw.up 6
       replace hw := hw.up 6
       replace hw := hw.up 6
       replace hw := hw.up 6
       replace hw := hw.up 6
       replace hw := hw.up 6
       replace hw := hw.up 6
       exact hJ5 false true _ _ hs.kx hw H
    ·replace H := ite_f H (bne_iff_ne.1 hb139)
     rw [hb139] at hs
     refine c_pvs [2, 3, 4, 5] [7] [16, 71] [(74, .bool true), (75, .pointer (some (⟨g54, 0, none⟩ : Addr)))] hs ?_; clear hs; intro a hs
     refine c_run hs (by rfl) (fun wx hbx => (x_lds (off := 0) (p := ad68) (cs := (eSapi_Regs.enc (t64 : Sapi_Regs))) ((Rd.of_own (hw.up 3)).below hbx) (one_ok (t64 : Sapi_Regs)) (one_at _ _))) [9] ?_; clear hs; intro a hs
     refine c_end ?_
     intro wq hbq
     replace hw := hw.behind hbq
     have hbc := Below.refl wq.heap.size wq
     obtain ⟨t192, hx193, H⟩ := bind_some H
     refine p_call hs (by rfl) (machine_Machine_Regs.calls (some ⟨g54, 0, none⟩) t118 t192 _ (rSmachine_Machine.of_m (hw.up 0)) hx193) ?_
     rintro e wd194 ⟨rfl, hw195⟩
     refine ⟨_, rfl, ?_⟩
     replace hbc := hw195.below
     replace hw := hw.call hw195
     clear hs; intro a hs; replace hs := hs.rms [75]
     refine c_done ⟨bl_of hbq hbc, ?_⟩
     clear hbc hbq
     refine c_seg ?_
     refine c_run hs (by rfl) (fun wx hbx => (x_neq (xs := (eSapi_Regs.enc t192).toArray) (ys := (eSapi_Regs.enc (t64 : Sapi_Regs)).toArray) (r := ((decide (t192.R = ((t64 : Sapi_Regs).R))) && ((t192.H == ((t64 : Sapi_Regs).H)) && ((t192.N == ((t64 : Sapi_Regs).N)) && ((t192.Z == ((t64 : Sapi_Regs).Z)) && ((t192.C == ((t64 : Sapi_Regs).C)) && ((t192.V == ((t64 : Sapi_Regs).V)) && true))))))) (by kernel_rfl) (by kernel_rfl) (by kernel_rfl) (eq_struct Try.underlying26 (by kernel_rfl) (eq_cons (a := .agg (eA24.enc t192.R).toArray) (b := .agg (eA24.enc ((t64 : Sapi_Regs).R)).toArray) (r := (decide (t192.R = ((t64 : Sapi_Regs).R)))) (s := ((t192.H == ((t64 : Sapi_Regs).H)) && ((t192.N == ((t64 : Sapi_Regs).N)) && ((t192.Z == ((t64 : Sapi_Regs).Z)) && ((t192.C == ((t64 : Sapi_Regs).C)) && ((t192.V == ((t64 : Sapi_Regs).V)) && true)))))) (by kernel_rfl) (part_pv (by kernel_rfl)) (part_pv (by kernel_rfl)) (eq_vec (e := 23) (k' := .u32) (k := .u32) t192.R ((t64 : Sapi_Regs).R) (by kernel_rfl) (by kernel_rfl) (by kernel_rfl) (by kernel_rfl) (by kernel_rfl)) (eq_cons (a := .int .u32 t192.H) (b := .int .u32 ((t64 : Sapi_Regs).H)) (r := (t192.H == ((t64 : Sapi_Regs).H))) (s := ((t192.N == ((t64 : Sapi_Regs).N)) && ((t192.Z == ((t64 : Sapi_Regs).Z)) && ((t192.C == ((t64 : Sapi_Regs).C)) && ((t192.V == ((t64 : Sapi_Regs).V)) && true))))) (by kernel_rfl) (part_pv (by kernel_rfl)) (part_pv (by kernel_rfl)) (eq_pv (by kernel_rfl)) (eq_cons (a := .bool t192.N) (b := .bool ((t64 : Sapi_Regs).N)) (r := (t192.N == ((t64 : Sapi_Regs).N))) (s := ((t192.Z == ((t64 : Sapi_Regs).Z)) && ((t192.C == ((t64 : Sapi_Regs).C)) && ((t192.V == ((t64 : Sapi_Regs).V)) && true)))) (by kernel_rfl) (part_pv (by kernel_rfl)) (part_pv (by kernel_rfl)) (eq_pv (by kernel_rfl)) (eq_cons (a := .bool t192.Z) (b := .bool ((t64 : Sapi_Regs).Z)) (r := (t192.Z == ((t64 : Sapi_Regs).Z))) (s := ((t192.C == ((t64 : Sapi_Regs).C)) && ((t192.V == ((t64 : Sapi_Regs).V)) && true))) (by kernel_rfl) (part_pv (by kernel_rfl)) (part_pv (by kernel_rfl)) (eq_pv (by kernel_rfl)) (eq_cons (a := .bool t192.C) (b := .bool ((t64 : Sapi_Regs).C)) (r := (t192.C == ((t64 : Sapi_Regs).C))) (s := ((t192.V == ((t64 : Sapi_Regs).V)) && true)) (by kernel_rfl) (part_pv (by kernel_rfl)) (part_pv (by kernel_rfl)) (eq_pv (by kernel_rfl)) (eq_cons (a := .bool t192.V) (b := .bool ((t64 : Sapi_Regs).V)) (r := (t192.V == ((t64 : Sapi_Regs).V))) (s := true) (by kernel_rfl) (part_pv (by kernel_rfl)) (part_pv (by kernel_rfl)) (eq_pv (by kernel_rfl)) eq_nil))))))))) [76, 77] ?_; clear hs; intro a hs
     refine c_pvs [9] [10, 12] [78] [(79, .bool (!((decide (t192.R = ((t64 : Sapi_Regs).R))) && ((t192.H == ((t64 : Sapi_Regs).H)) && ((t192.N == ((t64 : Sapi_Regs).N)) && ((t192.Z == ((t64 : Sapi_Regs).Z)) && ((t192.C == ((t64 : Sapi_Regs).C)) && ((t192.V == ((t64 : Sapi_Regs).V)) && true))))))))] hs ?_; clear hs; intro a hs
     cases hb196 : (!((decide (t192.R = ((t64 : Sapi_Regs).R))) && ((t192.H == ((t64 : Sapi_Regs).H)) && ((t192.N == ((t64 : Sapi_Regs).N)) && ((t192.Z == ((t64 : Sapi_Regs).Z)) && ((t192.C == ((t64 : Sapi_Regs).C)) && ((t192.V == ((t64 : Sapi_Regs).V)) && true)))))))
     ·replace H := ite_f H (ff hb196)
      rw [hb196] at hs
      refine c_pvs [10, 12] [] [10] [(80, .pointer (some (⟨g54, 0, none⟩ : Addr))), (82, .int .u32 t76)] hs ?_; clear hs; intro a hs
      refine c_end ?_
      intro wq hbq
      replace hw := hw.behind hbq
      have hbc := Below.refl wq.heap.size wq
      obtain ⟨t198, hx199, H⟩ := bind_some H
      refine p_call hs (by rfl) (machine_Machine_PC.calls (some ⟨g54, 0, none⟩) t118 t198 _ (rSmachine_Machine.of_m (hw.up 0)) hx199) ?_
      rintro e wd200 ⟨rfl, hw201⟩
      refine ⟨_, rfl, ?_⟩
      replace hbc := hw201.below
      replace hw := hw.call hw201
      clear hs; intro a hs; replace hs := hs.rms [80]
      refine c_done ⟨bl_of hbq hbc, ?_⟩
      clear hbc hbq
      refine c_seg ?_
      refine c_pvs [13, 14, 15] [16, 17, 18, 19, 21] [79, 81, 82] [(85, .bool (t198 != t76))] hs ?_; clear hs; intro a hs
      cases hb202 : (t198 != t76)
      ·replace H := ite_t H (bne_eq_false_iff_eq.1 hb202)
       rw [hb202] at hs
       refine c_pvs [16, 17, 18] [19, 21] [] [(88, .pointer (some (⟨g54, 0, none⟩ : Addr)))] hs ?_; clear hs; intro a hs
       obtain ⟨Aa203, Aa205, cc206, Aa208, cc209, hw⟩ := mSmachine_Machine.open1 hw
       replace hw : St [] w0 _ [box g54 40 ([.pointer Aa203] ++ eSapi_Regs.enc t118.s ++ [.int .u32 t118.pc, .int .i64 t118.status, .slice Aa205 t118.in'.length cc206, .slice Aa208 t118.out.length cc209]), oM mSmemory_Memory Aa203 t118.Memory, rdo (eI .u32) Aa205 cc206 t118.in', own 23 (eI .u32) Aa208 cc209 t118.out, own 23 (eI .u32) Aa104 cc105 t102, own 23 (eI .u32) Aa95 cc96 t93, own 26 eSapi_Regs (some ad68) 1 [(t64 : Sapi_Regs)], oM mSrivetref06_Machine Aa29 t26, own 23 (eI .u32) Aa19 cc20 t17, box g2 28 (eSapi_Regs.enc a1.S ++ [.int .u32 (a1.PC.tmod 80), .slice A1_1 a1.In.length c1_1])] := hw
       replace hw := hw.up 1
       obtain ⟨y211, hy212, H⟩ := bind_some H
       replace hw := St.oM_some hw hy212
       obtain ⟨g213, hAg, hwg⟩ := St.one hw
       clear hw; subst hAg; have hw := hwg; clear hwg
       replace hw : St [] w0 _ [own 75 eSmemory_Memory (some (⟨g213, 0, none⟩ : Addr)) 1 [y211], box g54 40 ([.pointer (some (⟨g213, 0, none⟩ : Addr))] ++ eSapi_Regs.enc t118.s ++ [.int .u32 t118.pc, .int .i64 t118.status, .slice Aa205 t118.in'.length cc206, .slice Aa208 t118.out.length cc209]), rdo (eI .u32) Aa205 cc206 t118.in', own 23 (eI .u32) Aa208 cc209 t118.out, own 23 (eI .u32) Aa104 cc105 t102, own 23 (eI .u32) Aa95 cc96 t93, own 26 eSapi_Regs (some ad68) 1 [(t64 : Sapi_Regs)], oM mSrivetref06_Machine Aa29 t26, own 23 (eI .u32) Aa19 cc20 t17, box g2 28 (eSapi_Regs.enc a1.S ++ [.int .u32 (a1.PC.tmod 80), .slice A1_1 a1.In.length c1_1])] := hw
       refine c_run hs (by rfl) (fun wx hbx => (x_bld (g := g54) (o := 0) (p := (⟨g54, 0, none⟩ : Addr)) (v := .pointer (some (⟨g213, 0, none⟩ : Addr))) ((hw.behind hbx).up 1))) [88] ?_; clear hs; intro a hs
       refine c_pvs [21] [] [11] [(91, .slice Aa95 t93.length cc96)] hs ?_; clear hs; intro a hs
       refine c_end ?_
       intro wq hbq
       replace hw := hw.behind hbq
       have hbc := Below.refl wq.heap.size wq
       obtain ⟨t215, hx216, H⟩ := bind_some H
       refine p_call hs (by rfl) (memory_Memory_Words.calls (some (⟨g213, 0, none⟩ : Addr)) y211 t215 _ (Rd.of_own (hw.up 0)) hx216) ?_
       rintro e wd219 ⟨Aa217, cc218, rfl, hw220⟩
       refine ⟨_, rfl, ?_⟩
       replace hbc := hw220.below
       replace hw := hw.call hw220
       clear hs; intro a hs; replace hs := hs.rms [89]
       refine c_done ⟨bl_of hbq hbc, ?_⟩
       clear hbc hbq
       refine c_seg ?_
       refine c_end ?_
       intro wq hbq
       replace hw := hw.behind hbq
       have hbc := Below.refl wq.heap.size wq
       obtain ⟨t223, hx224, H⟩ := bind_some H
       refine p_call hs (by rfl) (rivetref05_Same.calls Aa217 cc218 t215 Aa95 cc96 t93 t223 _ (Rd.of_own (hw.up 0)) (Rd.of_own (hw.up 6)) hx224) ?_
       rintro e wd225 ⟨rfl, hw226⟩
       refine ⟨_, rfl, ?_⟩
       replace hbc := hw226.below
       replace hw := hw.call hw226
       clear hs; intro a hs; replace hs := hs.rms [90, 91]
       refine c_done ⟨bl_of hbq hbc, ?_⟩
       clear hbc hbq
       refine c_seg ?_
       refine c_pvs [23, 24, 25] [26, 28] [85, 92] [(95, .bool (!t223))] hs ?_; clear hs; intro a hs
       cases hb227 : (!t223)
       ·replace H := ite_t H (nf hb227)
        rw [hb227] at hs
        refine c_pvs [26, 28] [] [12] [(96, .pointer (some (⟨g54, 0, none⟩ : Addr))), (98, .slice Aa104 t102.length cc105)] hs ?_; clear hs; intro a hs
        refine c_end ?_
        intro wq hbq
        replace hw := hw.behind hbq
        have hbc := Below.refl wq.heap.size wq
        replace hw := hw.up 1
        replace hw := St.oM_back (m := mSmemory_Memory) (A := (some (⟨g213, 0, none⟩ : Addr))) (x := y211) hw hy212
        replace hw := hw.up 4
        replace hw := hw.up 4
        replace hw := hw.up 2
        replace hw := hw.up 4
        replace hw := mSmachine_Machine.close (x := t118) hw
        obtain ⟨t229, hx230, H⟩ := bind_some H
        refine p_call hs (by rfl) (machine_Machine_Out.calls (some ⟨g54, 0, none⟩) t118 t229 _ (rSmachine_Machine.of_m (hw.up 0)) hx230) ?_
        rintro e wd233 ⟨Aa231, cc232, rfl, hw234⟩
        refine ⟨_, rfl, ?_⟩
        replace hbc := hw234.below
        replace hw := hw.call hw234
        clear hs; intro a hs; replace hs := hs.rms [96]
        refine c_done ⟨bl_of hbq hbc, ?_⟩
        clear hbc hbq
        refine c_seg ?_
        refine c_end ?_
        intro wq hbq
        replace hw := hw.behind hbq
        have hbc := Below.refl wq.heap.size wq
        obtain ⟨t237, hx238, H⟩ := bind_some H
        refine p_call hs (by rfl) (rivetref05_Same.calls Aa231 cc232 t229 Aa104 cc105 t102 t237 _ (Rd.of_own (hw.up 0)) (Rd.of_own (hw.up 3)) hx238) ?_
        rintro e wd239 ⟨rfl, hw240⟩
        refine ⟨_, rfl, ?_⟩
        replace hbc := hw240.below
        replace hw := hw.call hw240
        clear hs; intro a hs; replace hs := hs.rms [97, 98]
        refine c_done ⟨bl_of hbq hbc, ?_⟩
        clear hbc hbq
        refine c_last ?_
        refine c_pvs [30, 31, 32] [] [74, 95, 99] [(102, .bool (!t237))] hs ?_; clear hs; intro a hs
        refine c_end ?_
        intro wq hbq
        replace hw := hw.behind hbq
        replace hw := hw.up 8
        replace hw := hw.up 8
        replace hw := hw.up 8
        replace hw := hw.up 8
        replace hw := hw.up 8
        replace hw := hw.up 8
        replace hw := hw.up 7
        replace hw := hw.only 7
        exact hJ5 true (!t237) _ _ hs.kx hw H
       ·replace H := ite_f H (ff (nt hb227))
        rw [hb227] at hs
        refine c_pvs [26, 28] [] [12] [(96, undef), (98, undef)] hs ?_; clear hs; intro a hs
        refine c_end ?_
        intro wq hbq
        replace hw := hw.behind hbq
        have hbc := Below.refl wq.heap.size wq
        refine p_pvs [27] [] [96] [(97, undef)] hs ?_; clear hs; intro a hs
        refine c_done ⟨bl_of hbq hbc, ?_⟩
        clear hbc hbq
        refine c_seg ?_
        refine c_end ?_
        intro wq hbq
        replace hw := hw.behind hbq
        have hbc := Below.refl wq.heap.size wq
        refine p_pvs [29] [] [97, 98] [(99, undef)] hs ?_; clear hs; intro a hs
        refine c_done ⟨bl_of hbq hbc, ?_⟩
        clear hbc hbq
        refine c_last ?_
        refine c_pvs [30, 31, 32] [] [74, 95, 99] [(102, .bool true)] hs ?_; clear hs; intro a hs
        refine c_end ?_
        intro wq hbq
        replace hw := hw.behind hbq
        replace hw := hw.up 1
        replace hw := St.oM_back (m := mSmemory_Memory) (A := (some (⟨g213, 0, none⟩ : Addr))) (x := y211) hw hy212
        replace hw := hw.up 4
        replace hw := hw.up 4
        replace hw := hw.up 2
        replace hw := hw.up 4
        replace hw := mSmachine_Machine.close (x := t118) hw
        replace hw := hw.up 7
        replace hw := hw.up 7
        replace hw := hw.up 7
        replace hw := hw.up 7
        replace hw := hw.up 7
        replace hw := hw.up 7
        replace hw := hw.up 6
        replace hw := hw.only 7
        exact hJ5 true true _ _ hs.kx hw H
      ·replace H := ite_f H (bne_iff_ne.1 hb202)
       rw [hb202] at hs
       refine c_pvs [16, 17, 18, 19, 21] [] [11] [(89, undef), (91, undef)] hs ?_; clear hs; intro a hs
       refine c_end ?_
       intro wq hbq
       replace hw := hw.behind hbq
       have hbc := Below.refl wq.heap.size wq
       refine p_pvs [20] [] [89] [(90, undef)] hs ?_; clear hs; intro a hs
       refine c_done ⟨bl_of hbq hbc, ?_⟩
       clear hbc hbq
       refine c_seg ?_
       refine c_end ?_
       intro wq hbq
       replace hw := hw.behind hbq
       have hbc := Below.refl wq.heap.size wq
       refine p_pvs [22] [] [90, 91] [(92, undef)] hs ?_; clear hs; intro a hs
       refine c_done ⟨bl_of hbq hbc, ?_⟩
       clear hbc hbq
       refine c_seg ?_
       refine c_pvs [23, 24, 25, 26, 28] [] [12, 85, 92] [(95, .bool true), (96, undef), (98, undef)] hs ?_; clear hs; intro a hs
       refine c_end ?_
       intro wq hbq
       replace hw := hw.behind hbq
       have hbc := Below.refl wq.heap.size wq
       refine p_pvs [27] [] [96] [(97, undef)] hs ?_; clear hs; intro a hs
       refine c_done ⟨bl_of hbq hbc, ?_⟩
       clear hbc hbq
       refine c_seg ?_
       refine c_end ?_
       intro wq hbq
       replace hw := hw.behind hbq
       have hbc := Below.refl wq.heap.size wq
       refine p_pvs [29] [] [97, 98] [(99, undef)] hs ?_; clear hs; intro a hs
       refine c_done ⟨bl_of hbq hbc, ?_⟩
       clear hbc hbq
       refine c_last ?_
       refine c_pvs [30, 31, 32] [] [74, 95, 99] [(102, .bool true)] hs ?_; clear hs; intro a hs
       refine c_end ?_
       intro wq hbq
       replace hw := hw.behind hbq
       replace hw := hw.up 6
       replace hw := hw.up 6
       replace hw := hw.up 6
       replace hw := hw.up 6
       replace hw := hw.up 6
       replace hw := hw.up 6
       replace hw := hw.up 6
       exact hJ5 true true _ _ hs.kx hw H
     ·replace H := ite_t H hb196
      rw [hb196] at hs
      refine c_pvs [10, 12] [] [10] [(80, undef), (82, undef)] hs ?_; clear hs; intro a hs
      refine c_end ?_
      intro wq hbq
      replace hw := hw.behind hbq
      have hbc := Below.refl wq.heap.size wq
      refine p_pvs [11] [] [80] [(81, undef)] hs ?_; clear hs; intro a hs
      refine c_done ⟨bl_of hbq hbc, ?_⟩
      clear hbc hbq
      refine c_seg ?_
      refine c_pvs [13, 14, 15, 16, 17, 18, 19, 21] [] [11, 79, 81, 82] [(85, .bool true), (89, undef), (91, undef)] hs ?_; clear hs; intro a hs
      refine c_end ?_
      intro wq hbq
      replace hw := hw.behind hbq
      have hbc := Below.refl wq.heap.size wq
      refine p_pvs [20] [] [89] [(90, undef)] hs ?_; clear hs; intro a hs
      refine c_done ⟨bl_of hbq hbc, ?_⟩
      clear hbc hbq
      refine c_seg ?_
      refine c_end ?_
      intro wq hbq
      replace hw := hw.behind hbq
      have hbc := Below.refl wq.heap.size wq
      refine p_pvs [22] [] [90, 91] [(92, undef)] hs ?_; clear hs; intro a hs
      refine c_done ⟨bl_of hbq hbc, ?_⟩
      clear hbc hbq
      refine c_seg ?_
      refine c_pvs [23, 24, 25, 26, 28] [] [12, 85, 92] [(95, .bool true), (96, undef), (98, undef)] hs ?_; clear hs; intro a hs
      refine c_end ?_
      intro wq hbq
      replace hw := hw.behind hbq
      have hbc := Below.refl wq.heap.size wq
      refine p_pvs [27] [] [96] [(97, undef)] hs ?_; clear hs; intro a hs
      refine c_done ⟨bl_of hbq hbc, ?_⟩
      clear hbc hbq
      refine c_seg ?_
      refine c_end ?_
      intro wq hbq
      replace hw := hw.behind hbq
      have hbc := Below.refl wq.heap.size wq
      refine p_pvs [29] [] [97, 98] [(99, undef)] hs ?_; clear hs; intro a hs
      refine c_done ⟨bl_of hbq hbc, ?_⟩
      clear hbc hbq
      refine c_last ?_
      refine c_pvs [30, 31, 32] [] [74, 95, 99] [(102, .bool true)] hs ?_; clear hs; intro a hs
      refine c_end ?_
      intro wq hbq
      replace hw := hw.behind hbq
      replace hw := hw.up 6
      replace hw := hw.up 6
      replace hw := hw.up 6
      replace hw := hw.up 6
      replace hw := hw.up 6
      replace hw := hw.up 6
      replace hw := hw.up 6
      exact hJ5 true true _ _ hs.kx hw H
   refine go_seq_k fun K123 hK123 => ?_
   have hJ3 : ∀ (v131 : Bool) (a : Act) (w : World), Slots a 109 [(6, .pointer (some (⟨g54, 0, none⟩ : Addr))), (8, .int .i64 v57), (9, .pointer (some ad68)), (10, .int .u32 t76), (11, .slice Aa95 t93.length cc96), (12, .slice Aa104 t102.length cc105), (13, .int .i64 t111), (14, .int .i64 t117), (65, .bool v131)] → St [] w0 w [mSmachine_Machine (some ⟨g54, 0, none⟩) t118, own 23 (eI .u32) Aa104 cc105 t102, own 23 (eI .u32) Aa95 cc96 t93, own 26 eSapi_Regs (some ad68) 1 [(t64 : Sapi_Regs)], oM mSrivetref06_Machine Aa29 t26, own 23 (eI .u32) Aa19 cc20 t17, box g2 28 (eSapi_Regs.enc a1.S ++ [.int .u32 (a1.PC.tmod 80), .slice A1_1 a1.In.length c1_1])] → rivetlaw06_MachineStops.j3 t111 t117 t118 t64 v57 t76 t93 t102 v131 = some o → K123 a w := by
    intro v131 a w hs hw H
    unfold rivetlaw06_MachineStops.j3 at H
    refine hK123 _ _ ?_
    refine go_cond hs v131 (fun hc => ?_) fun hc => ?_
    ·replace H := ite_t H hc
     have hb132 := hc
     rw [hb132] at hs
     refine go_sp [6, 8, 9, 10, 11, 12, 13, 14, 65] [(4, .bool false)] hs ?_; clear hs; intro a hs
     refine wp_ret ?_
     refine th_ret ?_
     refine ib_ret ?_
     refine th_ret ?_
     refine th_ret ?_
     refine ib_ret ?_
     refine th_ret ?_
     rw [← hr55 _ (Option.some.inj H).symm] at HX55
     replace H : some false = some r := HX55
     obtain rfl := Option.some.inj H
     refine ret1 (t := 4) (v := .bool false) hs (by kernel_rfl) (by kernel_rfl) ?_
     exact ⟨rfl, hw.only 0⟩
    ·replace H := ite_f H (ff hc)
     have hb134 := hc
     rw [hb134] at hs
     refine wp_skip ?_
     replace hw := hw.up 6
     replace hw := hw.up 6
     replace hw := hw.up 6
     replace hw := hw.up 6
     replace hw := hw.up 6
     replace hw := hw.up 6
     replace hw := hw.up 6
     exact hJ4 _ _ hs.kx hw H
   refine go_region ?_
   refine go_pvs 2 [] [(54, .int .i64 t117), (55, .pointer (some (⟨g54, 0, none⟩ : Addr)))] hs ?_; clear hs; intro a hs
   obtain ⟨t125, hx126, H⟩ := bind_some H
   refine go_call hs (by rfl) (machine_Machine_Status.calls (some ⟨g54, 0, none⟩) t118 t125 _ (rSmachine_Machine.of_m (hw.up 0)) hx126) ?_
   rintro e wd127 ⟨rfl, hw128⟩
   refine ⟨_, rfl, ?_⟩
   replace hw := hw.call hw128
   clear hs; intro a hs; replace hs := hs.rms [55]
   refine go_pvs 5 [54, 56] [(58, .bool (t117 != t125))] hs ?_; clear hs; intro a hs
   cases hb129 : (t117 != t125)
   ·replace H := ite_t H (bne_eq_false_iff_eq.1 hb129)
    rw [hb129] at hs
    refine go_pvs 9 [58] [(62, .bool (decide (t117 < 0)))] hs ?_; clear hs; intro a hs
    replace hs : Slots a 109 [(6, .pointer (some (⟨g54, 0, none⟩ : Addr))), (8, .int .i64 v57), (9, .pointer (some ad68)), (10, .int .u32 t76), (11, .slice Aa95 t93.length cc96), (12, .slice Aa104 t102.length cc105), (13, .int .i64 t111), (14, .int .i64 t117), (62, .bool (decide (t117 < 0)))] := hs.kx
    cases hb130 : (decide (t117 < 0))
    ·replace H := ite_f H (of_decide_eq_false hb130)
     rw [hb130] at hs
     refine go_pvs 12 [62] [(65, .bool (decide (t117 > 5)))] hs ?_; clear hs; intro a hs
     refine go_end ?_
     replace hw := hw.up 6
     replace hw := hw.up 6
     replace hw := hw.up 6
     replace hw := hw.up 6
     replace hw := hw.up 6
     replace hw := hw.up 6
     replace hw := hw.up 6
     exact hJ3 (decide (t117 > 5)) _ _ hs.kx hw H
    ·replace H := ite_t H (of_decide_eq_true hb130)
     rw [hb130] at hs
     refine go_pvs 12 [62] [(65, .bool true)] hs ?_; clear hs; intro a hs
     refine go_end ?_
     replace hw := hw.up 6
     replace hw := hw.up 6
     replace hw := hw.up 6
     replace hw := hw.up 6
     replace hw := hw.up 6
     replace hw := hw.up 6
     replace hw := hw.up 6
     exact hJ3 true _ _ hs.kx hw H
   ·replace H := ite_f H (bne_iff_ne.1 hb129)
    rw [hb129] at hs
    refine go_pvs 12 [58] [(65, .bool true)] hs ?_; clear hs; intro a hs
    replace hs : Slots a 109 [(6, .pointer (some (⟨g54, 0, none⟩ : Addr))), (8, .int .i64 v57), (9, .pointer (some ad68)), (10, .int .u32 t76), (11, .slice Aa95 t93.length cc96), (12, .slice Aa104 t102.length cc105), (13, .int .i64 t111), (14, .int .i64 t117), (65, .bool true)] := hs.kx
    refine go_end ?_
    replace hw := hw.up 6
    replace hw := hw.up 6
    replace hw := hw.up 6
    replace hw := hw.up 6
    replace hw := hw.up 6
    replace hw := hw.up 6
    replace hw := hw.up 6
    exact hJ3 true _ _ hs.kx hw H
  ·replace H := ite_f H (of_decide_eq_false hc)
   have hb254 := hc
   rw [hb254] at hs
   refine wp_exit ?_
   refine th_exit ?_
   refine th_exit ?_
   refine in_block ?_
   replace hw := hw.up 3
   replace hw := hw.up 3
   replace hw := hw.up 3
   replace hw := hw.up 3
   rw [← hr55 _ (Option.some.inj H).symm] at HX55
   exact hJ9 v56 _ _ hs.kx hw HX55
 refine go_seq_k fun K35 hK35 => ?_
 have hJ1 : ∀ (Aa40 : Option Addr) (x41 : Option Smachine_Machine) (v42 : Bool) (a : Act) (w : World), Slots a 109 [(6, .pointer Aa40), (34, .bool v42)] → St [] w0 w [oM mSrivetref06_Machine Aa29 t26, own 23 (eI .u32) Aa19 cc20 t17, box g2 28 (eSapi_Regs.enc a1.S ++ [.int .u32 (a1.PC.tmod 80), .slice A1_1 a1.In.length c1_1]), oM mSmachine_Machine Aa40 x41] → rivetlaw06_MachineStops.j1 x41 v42 = some r → K35 a w := by
  intro Aa40 x41 v42 a w hs hw H
  unfold rivetlaw06_MachineStops.j1 at H
  refine hK35 _ _ ?_
  refine go_cond hs v42 (fun hc => ?_) fun hc => ?_
  ·replace H := ite_t H hc
   have hb43 := hc
   rw [hb43] at hs
   refine go_sp [6, 34] [(4, .bool false)] hs ?_; clear hs; intro a hs
   refine wp_ret ?_
   refine th_ret ?_
   obtain rfl := Option.some.inj H
   refine ret1 (t := 4) (v := .bool false) hs (by kernel_rfl) (by kernel_rfl) ?_
   exact ⟨rfl, hw.only 0⟩
  ·replace H := ite_f H (ff hc)
   have hb45 := hc
   rw [hb45] at hs
   refine wp_skip ?_
   replace hw := hw.up 3
   replace hw := hw.up 3
   replace hw := hw.up 3
   replace hw := hw.up 3
   exact hJ2 Aa40 x41 _ _ hs.kx hw H
 refine go_region ?_
 refine go_pvs 3 [5] [(31, .bool (!t8))] hs ?_; clear hs; intro a hs
 cases hb36 : (!t8)
 ·replace H := ite_t H (nf hb36)
  rw [hb36] at hs
  refine go_pvs 4 [] [(32, .pointer Aa28)] hs ?_; clear hs; intro a hs
  rcases t25 with _ | x37
  ·obtain ⟨hAg, hwg⟩ := St.oM_none hw
   clear hw; subst hAg; have hw := hwg; clear hwg
   refine go_pvs 6 [31, 32] [(6, .pointer none), (34, .bool true)] hs ?_; clear hs; intro a hs
   refine go_end ?_
   replace hw := St.oM_nil mSmachine_Machine hw
   replace hw := hw.up 3
   replace hw := hw.up 3
   replace hw := hw.up 3
   exact hJ1 none (none : Option Smachine_Machine) true _ _ hs.kx hw H
  ·replace hw : St [] w0 _ [mSmachine_Machine Aa28 x37, oM mSrivetref06_Machine Aa29 t26, own 23 (eI .u32) Aa19 cc20 t17, box g2 28 (eSapi_Regs.enc a1.S ++ [.int .u32 (a1.PC.tmod 80), .slice A1_1 a1.In.length c1_1])] := hw
   obtain ⟨g38, hAg, hwg⟩ := mSmachine_Machine.addr hw
   clear hw; subst hAg; have hw := hwg; clear hwg
   replace hw : St [] w0 _ [mSmachine_Machine (some ⟨g38, 0, none⟩) x37, oM mSrivetref06_Machine Aa29 t26, own 23 (eI .u32) Aa19 cc20 t17, box g2 28 (eSapi_Regs.enc a1.S ++ [.int .u32 (a1.PC.tmod 80), .slice A1_1 a1.In.length c1_1])] := hw
   refine go_pvs 6 [31, 32] [(6, .pointer (some (⟨g38, 0, none⟩ : Addr))), (34, .bool false)] hs ?_; clear hs; intro a hs
   refine go_end ?_
   replace hw := St.oM_of (m := mSmachine_Machine) (A := (some ⟨g38, 0, none⟩)) (x := x37) hw
   replace hw := hw.up 3
   replace hw := hw.up 3
   replace hw := hw.up 3
   exact hJ1 (some ⟨g38, 0, none⟩) (some x37) false _ _ hs.kx hw H
 ·replace H := ite_f H (ff (nt hb36))
  rw [hb36] at hs
  refine go_pvs 6 [31] [(34, .bool true)] hs ?_; clear hs; intro a hs
  refine go_end ?_
  replace hw := hw.up 3
  replace hw := hw.up 3
  replace hw := hw.up 3
  exact hJ1 Aa28 t25 true _ _ hs.kx hw H

end Go.Proofs.Ytheccnbamcdpmaa.T06
