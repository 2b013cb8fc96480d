/- YtheccnbamcdpmaaT06zMachineLinks: Go functions told as plain ones, each with a proof that its call comes to what is told, part 1. Condition of each: that the plain function comes to a value. -/
import Derived.Test.YtheccnbamcdpmaaT06
import Derived.Test.YtheccnbamcdpmaaEP
import Derived.Test.YtheccnbamcdpmaaProg
namespace Go.Proofs.Ytheccnbamcdpmaa.T06
open Go Go.RowKit Go.Proofs.Ytheccnbamcdpmaa.E
set_option linter.unusedVariables false
set_option linter.unusedSimpArgs false
def eA24 : Enc (Vector Int 16) := ⟨16, fun x => [.int .u32 (vx 0 x 0), .int .u32 (vx 0 x 1), .int .u32 (vx 0 x 2), .int .u32 (vx 0 x 3), .int .u32 (vx 0 x 4), .int .u32 (vx 0 x 5), .int .u32 (vx 0 x 6), .int .u32 (vx 0 x 7), .int .u32 (vx 0 x 8), .int .u32 (vx 0 x 9), .int .u32 (vx 0 x 10), .int .u32 (vx 0 x 11), .int .u32 (vx 0 x 12), .int .u32 (vx 0 x 13), .int .u32 (vx 0 x 14), .int .u32 (vx 0 x 15)], (Vector.replicate 16 0), by decide, fun _ => rfl, fun x u hu => by simp at hu; rcases hu with rfl | rfl | rfl | rfl | rfl | rfl | rfl | rfl | rfl | rfl | rfl | rfl | rfl | rfl | rfl | rfl <;> rfl⟩
/-! rivet/rivetlaw06.MachineLinks: function 5 -/
noncomputable def rivetlaw06_MachineLinks.j1 : Option Bool := some false
noncomputable def rivetlaw06_MachineLinks.j5 (v139 : Bool) : Option Bool := some v139
noncomputable def rivetlaw06_MachineLinks.j7 (v150 : Bool) : Option Bool := some v150
noncomputable def rivetlaw06_MachineLinks.j6 (t96 : Int) (t97 : Smachine_Machine) (t103 : Sapi_Regs) (a0 : Sapi_Regs) (a1 : Int) : Option Bool := (if t96 = 0 then ((machine_Machine_PC t97).bind fun t144 => ((if t144 = 4 then (if ((decide (((t103 : Sapi_Regs).R) = a0.R)) && ((((t103 : Sapi_Regs).H) == a0.H) && ((((t103 : Sapi_Regs).N) == a0.N) && ((((t103 : Sapi_Regs).Z) == a0.Z) && ((((t103 : Sapi_Regs).C) == a0.C) && ((((t103 : Sapi_Regs).V) == a0.V) && true)))))) = true then rivetlaw06_MachineLinks.j7 ((w64 (a1.tmod 16)) != 7) else rivetlaw06_MachineLinks.j7 false) else rivetlaw06_MachineLinks.j7 false))) else rivetlaw06_MachineLinks.j7 false)
noncomputable def rivetlaw06_MachineLinks.j4 (t97 : Smachine_Machine) (t96 : Int) (a1 : Int) (t103 : Sapi_Regs) (a0 : Sapi_Regs) (v121 : Bool) : Option Bool := (if v121 = true then ((machine_Machine_Step t97).bind fun ⟨t125, t126⟩ => ((if t96 = 0 then (if t125 = 0 then ((machine_Machine_PC t126).bind fun t134 => ((if t134 = 4 then rivetlaw06_MachineLinks.j5 ((w64 (a1.tmod 16)) != 15) else rivetlaw06_MachineLinks.j5 false))) else rivetlaw06_MachineLinks.j5 false) else rivetlaw06_MachineLinks.j5 false))) else rivetlaw06_MachineLinks.j6 t96 t97 t103 a0 a1)
noncomputable def rivetlaw06_MachineLinks.j3 (a0 : Sapi_Regs) (y13 : Int) (a1 : Int) (v87 : Smachine_Machine) : Option Bool := ((machine_Machine_Start v87 0 a0).bind fun t90 => (((machine_Machine_Step t90).bind fun ⟨t96, t97⟩ => (((machine_Machine_Regs t97).bind fun t103 => (((machine_Machine_PC t97).bind fun t116 => ((if t116 = (wu32 (w64 (4 + (w64 (4 * y13))))) then rivetlaw06_MachineLinks.j4 t97 t96 a1 t103 a0 ((vx 0 ((t103 : Sapi_Regs).R) 15) == 4) else rivetlaw06_MachineLinks.j4 t97 t96 a1 t103 a0 false)))))))))
noncomputable def rivetlaw06_MachineLinks.j2 (a0 : Sapi_Regs) (y13 : Int) (a1 : Int) (v82 : Smachine_Machine) (v83 : Bool) : Option Bool := (if v83 = true then some false else rivetlaw06_MachineLinks.j3 a0 y13 a1 v82)
noncomputable def rivetlaw06_MachineLinks (a0 : Sapi_Regs) (a1 : Int) (a2 : Int) : Option Bool := ((rivetlaw06_shown).bind fun t8 => ((nm (w64 (1 + (w64 (a2.tmod 8)))) fun y13 => ((isa_Encode (⟨7, w64 (a1.tmod 16), 0, 0, 0, y13, true⟩ : Sapi_Instr)).bind fun ⟨t17, t18⟩ => (((isa_Encode (⟨6, 7, 0, 0, 15, 0, false⟩ : Sapi_Instr)).bind fun ⟨t24, t25⟩ => (((machine_New 12 ([] : List Int)).bind fun ⟨t31, t32⟩ => ((match t31 with | none => (if t8 = true then rivetlaw06_MachineLinks.j1 else rivetlaw06_MachineLinks.j1) | some x38 => (if t8 = true then (if t32 = 0 then ((x38.Memory).bind fun y56 => (((memory_Memory_Place y56 0 ([t17] : List Int)).bind fun ⟨t65, t66⟩ => ((if t65 = 0 then ((memory_Memory_Place t66 (w64 (1 + y13)) ([t24] : List Int)).bind fun ⟨t77, t78⟩ => (rivetlaw06_MachineLinks.j2 a0 y13 a1 (⟨(some t78), x38.s, x38.pc, x38.status, x38.in', x38.out⟩ : Smachine_Machine) (t77 != 0))) else rivetlaw06_MachineLinks.j2 a0 y13 a1 (⟨(some t66), x38.s, x38.pc, x38.status, x38.in', x38.out⟩ : Smachine_Machine) true))))) else rivetlaw06_MachineLinks.j2 a0 y13 a1 x38 true) else rivetlaw06_MachineLinks.j2 a0 y13 a1 x38 true)))))))))))
set_option maxRecDepth 100000 in
set_option maxHeartbeats 4000000 in
theorem rivetlaw06_MachineLinks.calls (a0 : Sapi_Regs) (a1 : Int) (a2 : Int) (r : Bool) (w0 : World) (H : rivetlaw06_MachineLinks a0 a1 a2 = some r) :
    Calls Try.prog 5 #[.agg (eSapi_Regs.enc a0).toArray, .int .u8 a1, .int .u8 a2] w0 fun e w' => e = .returned (.bool r) ∧ St [] w0 w' [] := by
 have hw : St [] w0 w0 [] := St.nil w0
 unfold rivetlaw06_MachineLinks at H
 refine go_fn Try.func5 rfl Try.ntmps5 ?_; intro a hs
 refine go_sk fun K1 hK1 => ?_
 obtain ⟨ad2, wd3, hx4, hw⟩ := x_box1 (P := Try.prog) (elem := 26) (v := (Operand.tmp 0)) (ty := 0) hs hw eSapi_Regs a0 (by kernel_rfl)
 refine go_run hs (by rfl) hx4 [0] ?_; clear hs; intro a hs
 refine go_pvs 2 [] [] hs ?_; clear hs; intro a hs
 refine go_end (hK1 _ _ ?_)
 refine go_sk fun K6 hK6 => ?_
 obtain ⟨t8, hx9, H⟩ := bind_some H
 refine go_call hs (by rfl) (rivetlaw06_shown.calls t8 _ hx9) ?_
 rintro e wd10 ⟨rfl, hw11⟩
 refine ⟨_, rfl, ?_⟩
 replace hw := hw.call hw11
 clear hs; intro a hs
 refine go_pvs 2 [19] [(7, .bool t8)] hs ?_; clear hs; intro a hs
 refine go_end (hK6 _ _ ?_)
 refine go_sp [2] [(8, .int .i64 (w64 (1 + (w64 (a2.tmod 8)))))] hs ?_; clear hs; intro a hs
 obtain ⟨y13, hy13, H⟩ := nm_some H
 replace hs : Slots a 128 [(1, .int .u8 a1), (3, .pointer (some ad2)), (7, .bool t8), (8, .int .i64 y13)] := by rw [hy13]; exact hs.kx
 refine go_sp [1] [(9, .int .i64 (w64 (a1.tmod 16)))] hs ?_; clear hs; intro a hs
 refine go_sk fun K15 hK15 => ?_
 refine go_pvs 3 [] [(30, .agg (eSapi_Instr.enc (⟨7, w64 (a1.tmod 16), 0, 0, 0, y13, true⟩ : Sapi_Instr)).toArray)] hs ?_; clear hs; intro a hs
 obtain ⟨⟨t17, t18⟩, hx19, H⟩ := bind_some H
 refine go_call hs (by rfl) (isa_Encode.calls (⟨7, w64 (a1.tmod 16), 0, 0, 0, y13, true⟩ : Sapi_Instr) (t17, t18) _ hx19) ?_
 rintro e wd20 ⟨rfl, hw21⟩
 refine ⟨_, rfl, ?_⟩
 replace hw := hw.call hw21
 clear hs; intro a hs; replace hs := hs.rms [30]
 refine go_pvs 9 [31] [(10, .int .u32 t17)] hs ?_; clear hs; intro a hs
 refine go_end (hK15 _ _ ?_)
 refine go_sk fun K22 hK22 => ?_
 refine go_pvs 1 [] [(35, .agg (eSapi_Instr.enc (⟨6, 7, 0, 0, 15, 0, false⟩ : Sapi_Instr)).toArray)] hs ?_; clear hs; intro a hs
 obtain ⟨⟨t24, t25⟩, hx26, H⟩ := bind_some H
 refine go_call hs (by rfl) (isa_Encode.calls (⟨6, 7, 0, 0, 15, 0, false⟩ : Sapi_Instr) (t24, t25) _ hx26) ?_
 rintro e wd27 ⟨rfl, hw28⟩
 refine ⟨_, rfl, ?_⟩
 replace hw := hw.call hw28
 clear hs; intro a hs; replace hs := hs.rms [35]
 refine go_pvs 7 [36] [(12, .int .u32 t24)] hs ?_; clear hs; intro a hs
 refine go_end (hK22 _ _ ?_)
 refine go_sk fun K29 hK29 => ?_
 obtain ⟨⟨t31, t32⟩, hx33, H⟩ := bind_some H
 refine go_call hs (by rfl) (machine_New.calls 12 none 0 ([] : List Int) (t31, t32) _ (Rd.nil _ _) hx33) ?_
 rintro e wd35 ⟨Aa34, rfl, hw36⟩
 refine ⟨_, rfl, ?_⟩
 replace hw := hw.call hw36
 clear hs; intro a hs
 rcases t31 with _ | x38
 ·obtain ⟨hAg, hwg⟩ := St.oM_none hw
  clear hw; subst hAg; have hw := hwg; clear hwg
  refine go_pvs 6 [40] [(14, .pointer none), (15, .int .i64 t32)] hs ?_; clear hs; intro a hs
  refine go_end (hK29 _ _ ?_)
  refine go_seq_k fun K39 hK39 => ?_
  refine go_seq_k fun K40 hK40 => ?_
  have hJ1 : ∀ (a : Act) (w : World), Slots a 128 [(3, .pointer (some ad2)), (8, .int .i64 y13), (9, .int .i64 (w64 (a1.tmod 16))), (14, .pointer none), (74, .bool true)] → St [] w0 w [own 26 eSapi_Regs (some ad2) 1 [a0]] → rivetlaw06_MachineLinks.j1 = some r → K40 a w := by
   intro a w hs hw H
   unfold rivetlaw06_MachineLinks.j1 at H
   refine hK40 _ _ ?_
   refine go_cond hs true (fun hc => ?_) fun hc => ?_
   ·skip
    refine go_sp [3, 8, 9, 14, 74] [(6, .bool false)] hs ?_; clear hs; intro a hs
    refine wp_ret ?_
    refine th_ret ?_
    obtain rfl := Option.some.inj H
    refine ret1 (t := 6) (v := .bool false) hs (by kernel_rfl) (by kernel_rfl) ?_
    exact ⟨rfl, hw.only 0⟩
   ·cases hc
  refine go_region ?_
  refine go_pvs 3 [7] [(45, .bool (!t8))] hs ?_; clear hs; intro a hs
  cases hb41 : (!t8)
  ·replace H := ite_t H (nf hb41)
   rw [hb41] at hs
   refine go_pvs 32 [10, 12, 15, 45] [(74, .bool true)] hs ?_; clear hs; intro a hs
   refine go_end ?_
   exact hJ1 _ _ hs.kx hw H
  ·replace H := ite_f H (ff (nt hb41))
   rw [hb41] at hs
   refine go_pvs 32 [10, 12, 15, 45] [(74, .bool true)] hs ?_; clear hs; intro a hs
   refine go_end ?_
   exact hJ1 _ _ hs.kx hw H
 ·replace hw : St [] w0 _ [mSmachine_Machine Aa34 x38, own 26 eSapi_Regs (some ad2) 1 [a0]] := hw
  obtain ⟨g43, hAg, hwg⟩ := mSmachine_Machine.addr hw
  clear hw; subst hAg; have hw := hwg; clear hwg
  replace hw : St [] w0 _ [mSmachine_Machine (some ⟨g43, 0, none⟩) x38, own 26 eSapi_Regs (some ad2) 1 [a0]] := hw
  refine go_pvs 6 [40] [(14, .pointer (some (⟨g43, 0, none⟩ : Addr))), (15, .int .i64 t32)] hs ?_; clear hs; intro a hs
  refine go_end (hK29 _ _ ?_)
  refine go_seq_k fun K44 hK44 => ?_
  have hJ3 : ∀ (v87 : Smachine_Machine) (a : Act) (w : World), Slots a 128 [(3, .pointer (some ad2)), (8, .int .i64 y13), (9, .int .i64 (w64 (a1.tmod 16))), (14, .pointer (some (⟨g43, 0, none⟩ : Addr)))] → St [] w0 w [mSmachine_Machine (some ⟨g43, 0, none⟩) v87, own 26 eSapi_Regs (some ad2) 1 [a0]] → rivetlaw06_MachineLinks.j3 a0 y13 a1 v87 = some r → K44 a w := by
   intro v87 a w hs hw H
   unfold rivetlaw06_MachineLinks.j3 at H
   refine hK44 _ _ ?_
   refine go_sk fun K88 hK88 => ?_
   refine go_pvs 1 [] [(75, .pointer (some (⟨g43, 0, none⟩ : Addr)))] hs ?_; clear hs; intro a hs
   refine go_run hs (by rfl) (x_lds (off := 0) (p := ad2) (cs := (eSapi_Regs.enc a0)) (Rd.of_own (hw.up 1)) (one_ok a0) (one_at _ _)) [] ?_; clear hs; intro a hs
   obtain ⟨ks89, hgks89, hstks89, hbkks89⟩ := hw.lend 1
   obtain ⟨t90, hx91, H⟩ := bind_some H
   refine go_call hs (by rfl) (machine_Machine_Start.calls ks89 (some ⟨g43, 0, none⟩) v87 0 a0 t90 _ hgks89 hx91) ?_
   rintro e wd92 ⟨rfl, hw93⟩
   refine ⟨_, rfl, ?_⟩
   replace hw := hbkks89 _ _ hw93
   replace hw : St [] w0 wd92 [mSmachine_Machine (some ⟨g43, 0, none⟩) t90, own 26 eSapi_Regs (some ad2) 1 [a0]] := hw
   clear hs; intro a hs; replace hs := hs.rms [75, 76, 77]
   refine go_end (hK88 _ _ ?_)
   refine go_sk fun K94 hK94 => ?_
   refine go_pvs 1 [] [(78, .pointer (some (⟨g43, 0, none⟩ : Addr)))] hs ?_; clear hs; intro a hs
   obtain ⟨ks95, hgks95, hstks95, hbkks95⟩ := hw.lend 1
   obtain ⟨⟨t96, t97⟩, hx98, H⟩ := bind_some H
   refine go_call hs (by rfl) (machine_Machine_Step.calls ks95 (some ⟨g43, 0, none⟩) t90 (t96, t97) _ hgks95 hx98) ?_
   rintro e wd99 ⟨rfl, hw100⟩
   refine ⟨_, rfl, ?_⟩
   replace hw := hbkks95 _ _ hw100
   replace hw : St [] w0 wd99 [mSmachine_Machine (some ⟨g43, 0, none⟩) t97, own 26 eSapi_Regs (some ad2) 1 [a0]] := hw
   clear hs; intro a hs; replace hs := hs.rms [78]
   refine go_pvs 3 [79] [(16, .int .i64 t96)] hs ?_; clear hs; intro a hs
   refine go_end (hK94 _ _ ?_)
   refine go_sk fun K101 hK101 => ?_
   refine go_pvs 1 [] [(80, .pointer (some (⟨g43, 0, none⟩ : Addr)))] hs ?_; clear hs; intro a hs
   obtain ⟨t103, hx104, H⟩ := bind_some H
   refine go_call hs (by rfl) (machine_Machine_Regs.calls (some ⟨g43, 0, none⟩) t97 t103 _ (rSmachine_Machine.of_m (hw.up 0)) hx104) ?_
   rintro e wd105 ⟨rfl, hw106⟩
   refine ⟨_, rfl, ?_⟩
   replace hw := hw.call hw106
   clear hs; intro a hs; replace hs := hs.rms [80]
   obtain ⟨ad107, wd108, hx109, hw⟩ := x_alloc1 (P := Try.prog) (elem := 26) (ty := 0) (z := .agg (eSapi_Regs.enc (⟨(Vector.replicate 16 0), 0, false, false, false, false⟩ : Sapi_Regs)).toArray) hs hw eSapi_Regs (⟨(Vector.replicate 16 0), 0, false, false, false, false⟩ : Sapi_Regs) (by kernel_rfl) (by kernel_rfl)
   refine go_run hs (by rfl) hx109 [] ?_; clear hs; intro a hs
   obtain ⟨wd111, hx112, hw⟩ := x_put (P := Try.prog) (ty := 0) (t := 26) (x := (Operand.tmp 17)) (y := (Operand.tmp 81)) (off := 0) (p := ad107) (v := .agg (eSapi_Regs.enc t103).toArray) (vs := (eSapi_Regs.enc t103)) (i := 0) (e' := ((t103 : Sapi_Regs) : Sapi_Regs)) hs hw rfl (one_ok (⟨(Vector.replicate 16 0), 0, false, false, false, false⟩ : Sapi_Regs)).1 (one_ok (⟨(Vector.replicate 16 0), 0, false, false, false, false⟩ : Sapi_Regs)).2 (by kernel_rfl) (one_at _ _) (by kernel_rfl) rfl (by kernel_rfl) (Nat.le_of_ble_eq_true rfl) (eSapi_Regs.one _) (by kernel_rfl)
   refine go_unit hs (by rfl) hx112 [81] ?_; clear hs; intro a hs
   replace hw : St [] w0 wd111 [own 26 eSapi_Regs (some ad107) 1 [(t103 : Sapi_Regs)], mSmachine_Machine (some ⟨g43, 0, none⟩) t97, own 26 eSapi_Regs (some ad2) 1 [a0]] := hw
   refine go_end (hK101 _ _ ?_)
   refine go_seq_k fun K113 hK113 => ?_
   have hJ6 : ∀ (a : Act) (w : World), Slots a 128 [(3, .pointer (some ad2)), (9, .int .i64 (w64 (a1.tmod 16))), (14, .pointer (some (⟨g43, 0, none⟩ : Addr))), (16, .int .i64 t96), (17, .pointer (some ad107))] → St [] w0 w [own 26 eSapi_Regs (some ad107) 1 [(t103 : Sapi_Regs)], mSmachine_Machine (some ⟨g43, 0, none⟩) t97, own 26 eSapi_Regs (some ad2) 1 [a0]] → rivetlaw06_MachineLinks.j6 t96 t97 t103 a0 a1 = some r → K113 a w := by
    intro a w hs hw H
    unfold rivetlaw06_MachineLinks.j6 at H
    refine hK113 _ _ ?_
    refine go_seq_k fun K141 hK141 => ?_
    have hJ7 : ∀ (v150 : Bool) (a : Act) (w : World), Slots a 128 [(6, .bool v150)] → St [] w0 w [own 26 eSapi_Regs (some ad107) 1 [(t103 : Sapi_Regs)], mSmachine_Machine (some ⟨g43, 0, none⟩) t97, own 26 eSapi_Regs (some ad2) 1 [a0]] → rivetlaw06_MachineLinks.j7 v150 = some r → K141 a w := by
     intro v150 a w hs hw H
     unfold rivetlaw06_MachineLinks.j7 at H
     refine hK141 _ _ ?_
     refine wp_ret ?_
     obtain rfl := Option.some.inj H
     refine ret1 (t := 6) (v := .bool v150) hs (by kernel_rfl) (by kernel_rfl) ?_
     exact ⟨rfl, hw.only 0⟩
    refine go_region ?_
    refine go_pvs 3 [16] [(114, .bool (t96 == 0))] hs ?_; clear hs; intro a hs
    cases hb142 : (t96 == 0)
    ·replace H := ite_f H (beq_eq_false_iff_ne.1 hb142)
     rw [hb142] at hs
     refine go_pvs 17 [3, 9, 14, 17, 114] [(6, .bool false)] hs ?_; clear hs; intro a hs
     refine go_end ?_
     replace hw := hw.up 2
     replace hw := hw.up 2
     replace hw := hw.up 2
     exact hJ7 false _ _ hs.kx hw H
    ·replace H := ite_t H (beq_iff_eq.1 hb142)
     rw [hb142] at hs
     refine go_pvs 4 [14] [(115, .pointer (some (⟨g43, 0, none⟩ : Addr)))] hs ?_; clear hs; intro a hs
     obtain ⟨t144, hx145, H⟩ := bind_some H
     refine go_call hs (by rfl) (machine_Machine_PC.calls (some ⟨g43, 0, none⟩) t97 t144 _ (rSmachine_Machine.of_m (hw.up 1)) hx145) ?_
     rintro e wd146 ⟨rfl, hw147⟩
     refine ⟨_, rfl, ?_⟩
     replace hw := hw.call hw147
     clear hs; intro a hs; replace hs := hs.rms [115]
     refine go_pvs 8 [114, 116] [(119, .bool (t144 == 4))] hs ?_; clear hs; intro a hs
     cases hb148 : (t144 == 4)
     ·replace H := ite_f H (beq_eq_false_iff_ne.1 hb148)
      rw [hb148] at hs
      refine go_pvs 17 [3, 9, 17, 119] [(6, .bool false)] hs ?_; clear hs; intro a hs
      refine go_end ?_
      replace hw := hw.up 2
      replace hw := hw.up 2
      replace hw := hw.up 2
      exact hJ7 false _ _ hs.kx hw H
     ·replace H := ite_t H (beq_iff_eq.1 hb148)
      rw [hb148] at hs
      refine go_run hs (by rfl) (x_lds (off := 0) (p := ad107) (cs := (eSapi_Regs.enc (t103 : Sapi_Regs))) (Rd.of_own (hw.up 0)) (one_ok (t103 : Sapi_Regs)) (one_at _ _)) [17] ?_; clear hs; intro a hs
      refine go_run hs (by rfl) (x_lds (off := 0) (p := ad2) (cs := (eSapi_Regs.enc a0)) (Rd.of_own (hw.up 2)) (one_ok a0) (one_at _ _)) [3] ?_; clear hs; intro a hs
      refine go_run hs (by rfl) (x_eql (xs := (eSapi_Regs.enc (t103 : Sapi_Regs)).toArray) (ys := (eSapi_Regs.enc a0).toArray) (r := ((decide (((t103 : Sapi_Regs).R) = a0.R)) && ((((t103 : Sapi_Regs).H) == a0.H) && ((((t103 : Sapi_Regs).N) == a0.N) && ((((t103 : Sapi_Regs).Z) == a0.Z) && ((((t103 : Sapi_Regs).C) == a0.C) && ((((t103 : Sapi_Regs).V) == a0.V) && true))))))) (by kernel_rfl) (by kernel_rfl) (by kernel_rfl) (eq_struct Try.underlying26 (by kernel_rfl) (eq_cons (a := .agg (eA24.enc ((t103 : Sapi_Regs).R)).toArray) (b := .agg (eA24.enc a0.R).toArray) (r := (decide (((t103 : Sapi_Regs).R) = a0.R))) (s := ((((t103 : Sapi_Regs).H) == a0.H) && ((((t103 : Sapi_Regs).N) == a0.N) && ((((t103 : Sapi_Regs).Z) == a0.Z) && ((((t103 : Sapi_Regs).C) == a0.C) && ((((t103 : Sapi_Regs).V) == a0.V) && true)))))) (by kernel_rfl) (part_pv (by kernel_rfl)) (part_pv (by kernel_rfl)) (eq_vec (e := 23) (k' := .u32) (k := .u32) ((t103 : Sapi_Regs).R) a0.R (by kernel_rfl) (by kernel_rfl) (by kernel_rfl) (by kernel_rfl) (by kernel_rfl)) (eq_cons (a := .int .u32 ((t103 : Sapi_Regs).H)) (b := .int .u32 a0.H) (r := (((t103 : Sapi_Regs).H) == a0.H)) (s := ((((t103 : Sapi_Regs).N) == a0.N) && ((((t103 : Sapi_Regs).Z) == a0.Z) && ((((t103 : Sapi_Regs).C) == a0.C) && ((((t103 : Sapi_Regs).V) == a0.V) && true))))) (by kernel_rfl) (part_pv (by kernel_rfl)) (part_pv (by kernel_rfl)) (eq_pv (by kernel_rfl)) (eq_cons (a := .bool ((t103 : Sapi_Regs).N)) (b := .bool a0.N) (r := (((t103 : Sapi_Regs).N) == a0.N)) (s := ((((t103 : Sapi_Regs).Z) == a0.Z) && ((((t103 : Sapi_Regs).C) == a0.C) && ((((t103 : Sapi_Regs).V) == a0.V) && true)))) (by kernel_rfl) (part_pv (by kernel_rfl)) (part_pv (by kernel_rfl)) (eq_pv (by kernel_rfl)) (eq_cons (a := .bool ((t103 : Sapi_Regs).Z)) (b := .bool a0.Z) (r := (((t103 : Sapi_Regs).Z) == a0.Z)) (s := ((((t103 : Sapi_Regs).C) == a0.C) && ((((t103 : Sapi_Regs).V) == a0.V) && true))) (by kernel_rfl) (part_pv (by kernel_rfl)) (part_pv (by kernel_rfl)) (eq_pv (by kernel_rfl)) (eq_cons (a := .bool ((t103 : Sapi_Regs).C)) (b := .bool a0.C) (r := (((t103 : Sapi_Regs).C) == a0.C)) (s := ((((t103 : Sapi_Regs).V) == a0.V) && true)) (by kernel_rfl) (part_pv (by kernel_rfl)) (part_pv (by kernel_rfl)) (eq_pv (by kernel_rfl)) (eq_cons (a := .bool ((t103 : Sapi_Regs).V)) (b := .bool a0.V) (r := (((t103 : Sapi_Regs).V) == a0.V)) (s := true) (by kernel_rfl) (part_pv (by kernel_rfl)) (part_pv (by kernel_rfl)) (eq_pv (by kernel_rfl)) eq_nil)))))))) [120, 121] ?_; clear hs; intro a hs
      refine go_pvs 13 [119, 122] [(124, .bool ((decide (((t103 : Sapi_Regs).R) = a0.R)) && ((((t103 : Sapi_Regs).H) == a0.H) && ((((t103 : Sapi_Regs).N) == a0.N) && ((((t103 : Sapi_Regs).Z) == a0.Z) && ((((t103 : Sapi_Regs).C) == a0.C) && ((((t103 : Sapi_Regs).V) == a0.V) && true)))))))] hs ?_; clear hs; intro a hs
      cases hb149 : ((decide (((t103 : Sapi_Regs).R) = a0.R)) && ((((t103 : Sapi_Regs).H) == a0.H) && ((((t103 : Sapi_Regs).N) == a0.N) && ((((t103 : Sapi_Regs).Z) == a0.Z) && ((((t103 : Sapi_Regs).C) == a0.C) && ((((t103 : Sapi_Regs).V) == a0.V) && true))))))
      ·replace H := ite_f H (ff hb149)
       rw [hb149] at hs
       refine go_pvs 17 [9, 124] [(6, .bool false)] hs ?_; clear hs; intro a hs
       refine go_end ?_
       replace hw := hw.up 2
       replace hw := hw.up 2
       replace hw := hw.up 2
       exact hJ7 false _ _ hs.kx hw H
      ·replace H := ite_t H hb149
       rw [hb149] at hs
       refine go_pvs 17 [9, 124] [(6, .bool ((w64 (a1.tmod 16)) != 7))] hs ?_; clear hs; intro a hs
       refine go_end ?_
       replace hw := hw.up 2
       replace hw := hw.up 2
       replace hw := hw.up 2
       exact hJ7 ((w64 (a1.tmod 16)) != 7) _ _ hs.kx hw H
   refine go_seq_k fun K114 hK114 => ?_
   have hJ4 : ∀ (v121 : Bool) (a : Act) (w : World), Slots a 128 [(3, .pointer (some ad2)), (9, .int .i64 (w64 (a1.tmod 16))), (14, .pointer (some (⟨g43, 0, none⟩ : Addr))), (16, .int .i64 t96), (17, .pointer (some ad107)), (94, .bool v121)] → St [] w0 w [own 26 eSapi_Regs (some ad107) 1 [(t103 : Sapi_Regs)], mSmachine_Machine (some ⟨g43, 0, none⟩) t97, own 26 eSapi_Regs (some ad2) 1 [a0]] → rivetlaw06_MachineLinks.j4 t97 t96 a1 t103 a0 v121 = some r → K114 a w := by
    intro v121 a w hs hw H
    unfold rivetlaw06_MachineLinks.j4 at H
    refine hK114 _ _ ?_
    refine go_cond hs v121 (fun hc => ?_) fun hc => ?_
    ·replace H := ite_t H hc
     have hb122 := hc
     rw [hb122] at hs
     refine go_sk fun K123 hK123 => ?_
     refine go_pvs 1 [3, 17, 94] [(95, .pointer (some (⟨g43, 0, none⟩ : Addr)))] hs ?_; clear hs; intro a hs
     replace hw := hw.up 1
     obtain ⟨ks124, hgks124, hstks124, hbkks124⟩ := hw.lend 1
     obtain ⟨⟨t125, t126⟩, hx127, H⟩ := bind_some H
     refine go_call hs (by rfl) (machine_Machine_Step.calls ks124 (some ⟨g43, 0, none⟩) t97 (t125, t126) _ hgks124 hx127) ?_
     rintro e wd128 ⟨rfl, hw129⟩
     refine ⟨_, rfl, ?_⟩
     replace hw := hbkks124 _ _ hw129
     replace hw : St [] w0 wd128 [mSmachine_Machine (some ⟨g43, 0, none⟩) t126, own 26 eSapi_Regs (some ad107) 1 [(t103 : Sapi_Regs)], own 26 eSapi_Regs (some ad2) 1 [a0]] := hw
     clear hs; intro a hs; replace hs := hs.rms [95]
     refine go_pvs 3 [96] [(18, .int .i64 t125)] hs ?_; clear hs; intro a hs
     refine go_end (hK123 _ _ ?_)
     refine go_seq_k fun K130 hK130 => ?_
     have hJ5 : ∀ (v139 : Bool) (a : Act) (w : World), Slots a 128 [(6, .bool v139)] → St [] w0 w [mSmachine_Machine (some ⟨g43, 0, none⟩) t126, own 26 eSapi_Regs (some ad107) 1 [(t103 : Sapi_Regs)], own 26 eSapi_Regs (some ad2) 1 [a0]] → rivetlaw06_MachineLinks.j5 v139 = some r → K130 a w := by
      intro v139 a w hs hw H
      unfold rivetlaw06_MachineLinks.j5 at H
      refine hK130 _ _ ?_
      refine wp_ret ?_
      refine th_ret ?_
      obtain rfl := Option.some.inj H
      refine ret1 (t := 6) (v := .bool v139) hs (by kernel_rfl) (by kernel_rfl) ?_
      exact ⟨rfl, hw.only 0⟩
     refine go_region ?_
     refine go_pvs 3 [16] [(99, .bool (t96 == 0))] hs ?_; clear hs; intro a hs
     cases hb131 : (t96 == 0)
     ·replace H := ite_f H (beq_eq_false_iff_ne.1 hb131)
      rw [hb131] at hs
      refine go_pvs 16 [9, 14, 18, 99] [(6, .bool false)] hs ?_; clear hs; intro a hs
      refine go_end ?_
      replace hw := hw.up 2
      replace hw := hw.up 2
      replace hw := hw.up 2
      exact hJ5 false _ _ hs.kx hw H
     ·replace H := ite_t H (beq_iff_eq.1 hb131)
      rw [hb131] at hs
      refine go_pvs 7 [18, 99] [(103, .bool (t125 == 0))] hs ?_; clear hs; intro a hs
      cases hb132 : (t125 == 0)
      ·replace H := ite_f H (beq_eq_false_iff_ne.1 hb132)
       rw [hb132] at hs
       refine go_pvs 16 [9, 14, 103] [(6, .bool false)] hs ?_; clear hs; intro a hs
       refine go_end ?_
       replace hw := hw.up 2
       replace hw := hw.up 2
       replace hw := hw.up 2
       exact hJ5 false _ _ hs.kx hw H
      ·replace H := ite_t H (beq_iff_eq.1 hb132)
       rw [hb132] at hs
       refine go_pvs 8 [14] [(104, .pointer (some (⟨g43, 0, none⟩ : Addr)))] hs ?_; clear hs; intro a hs
       obtain ⟨t134, hx135, H⟩ := bind_some H
       refine go_call hs (by rfl) (machine_Machine_PC.calls (some ⟨g43, 0, none⟩) t126 t134 _ (rSmachine_Machine.of_m (hw.up 0)) hx135) ?_
       rintro e wd136 ⟨rfl, hw137⟩
       refine ⟨_, rfl, ?_⟩
       replace hw := hw.call hw137
       clear hs; intro a hs; replace hs := hs.rms [104]
       refine go_pvs 12 [103, 105] [(108, .bool (t134 == 4))] hs ?_; clear hs; intro a hs
       cases hb138 : (t134 == 4)
       ·replace H := ite_f H (beq_eq_false_iff_ne.1 hb138)
        rw [hb138] at hs
        refine go_pvs 16 [9, 108] [(6, .bool false)] hs ?_; clear hs; intro a hs
        refine go_end ?_
        replace hw := hw.up 2
        replace hw := hw.up 2
        replace hw := hw.up 2
        exact hJ5 false _ _ hs.kx hw H
       ·replace H := ite_t H (beq_iff_eq.1 hb138)
        rw [hb138] at hs
        refine go_pvs 16 [9, 108] [(6, .bool ((w64 (a1.tmod 16)) != 15))] hs ?_; clear hs; intro a hs
        refine go_end ?_
        replace hw := hw.up 2
        replace hw := hw.up 2
        replace hw := hw.up 2
        exact hJ5 ((w64 (a1.tmod 16)) != 15) _ _ hs.kx hw H
    ·replace H := ite_f H (ff hc)
     have hb140 := hc
     rw [hb140] at hs
     refine wp_skip ?_
     replace hw := hw.up 2
     replace hw := hw.up 2
     replace hw := hw.up 2
     exact hJ6 _ _ hs.kx hw H
   refine go_region ?_
   refine go_pvs 1 [] [(82, .pointer (some (⟨g43, 0, none⟩ : Addr)))] hs ?_; clear hs; intro a hs
   obtain ⟨t116, hx117, H⟩ := bind_some H
   refine go_call hs (by rfl) (machine_Machine_PC.calls (some ⟨g43, 0, none⟩) t97 t116 _ (rSmachine_Machine.of_m (hw.up 1)) hx117) ?_
   rintro e wd118 ⟨rfl, hw119⟩
   refine ⟨_, rfl, ?_⟩
   replace hw := hw.call hw119
   clear hs; intro a hs; replace hs := hs.rms [82]
   refine go_pvs 8 [8, 83] [(89, .bool (t116 == (wu32 (w64 (4 + (w64 (4 * y13)))))))] hs ?_; clear hs; intro a hs
   cases hb120 : (t116 == (wu32 (w64 (4 + (w64 (4 * y13))))))
   ·replace H := ite_f H (beq_eq_false_iff_ne.1 hb120)
    rw [hb120] at hs
    refine go_pvs 13 [89] [(94, .bool false)] hs ?_; clear hs; intro a hs
    refine go_end ?_
    replace hw := hw.up 2
    replace hw := hw.up 2
    replace hw := hw.up 2
    exact hJ4 false _ _ hs.kx hw H
   ·replace H := ite_t H (beq_iff_eq.1 hb120)
    rw [hb120] at hs
    refine go_pvs 9 [] [(90, .pointer (some ((ad107 : Addr).add 0)))] hs ?_; clear hs; intro a hs
    refine go_run hs (by rfl) (x_vidx (e := 23) (p := (ad107 : Addr).add 0) (n := 16) (k := .i64) (i := 15) (sz := 1) (⟨by decide, by decide⟩ : (0 : Int) ≤ 15 ∧ (15 : Int) < ((16 : Nat) : Int))) [90] ?_; clear hs; intro a hs
    refine go_run hs (by rfl) (x_ld (off := 15) (p := ((ad107 : Addr).add 0 : Addr).add ((15 : Int).toNat * 1)) (v := .int .u32 (vx 0 ((t103 : Sapi_Regs).R) 15)) (Rd.of_own (hw.up 0)) (one_ok (t103 : Sapi_Regs)) (by simp only [add_add', Int.toNat_zero, Nat.zero_mul, Nat.zero_add, Nat.mul_one] <;> rfl)) [91] ?_; clear hs; intro a hs
    refine go_pvs 13 [89, 92] [(94, .bool ((vx 0 ((t103 : Sapi_Regs).R) 15) == 4))] hs ?_; clear hs; intro a hs
    refine go_end ?_
    replace hw := hw.up 2
    replace hw := hw.up 2
    replace hw := hw.up 2
    exact hJ4 ((vx 0 ((t103 : Sapi_Regs).R) 15) == 4) _ _ hs.kx hw H
  refine go_seq_k fun K45 hK45 => ?_
  have hJ2 : ∀ (v82 : Smachine_Machine) (v83 : Bool) (a : Act) (w : World), Slots a 128 [(3, .pointer (some ad2)), (8, .int .i64 y13), (9, .int .i64 (w64 (a1.tmod 16))), (14, .pointer (some (⟨g43, 0, none⟩ : Addr))), (74, .bool v83)] → St [] w0 w [mSmachine_Machine (some ⟨g43, 0, none⟩) v82, own 26 eSapi_Regs (some ad2) 1 [a0]] → rivetlaw06_MachineLinks.j2 a0 y13 a1 v82 v83 = some r → K45 a w := by
   intro v82 v83 a w hs hw H
   unfold rivetlaw06_MachineLinks.j2 at H
   refine hK45 _ _ ?_
   refine go_cond hs v83 (fun hc => ?_) fun hc => ?_
   ·replace H := ite_t H hc
    have hb84 := hc
    rw [hb84] at hs
    refine go_sp [3, 8, 9, 14, 74] [(6, .bool false)] hs ?_; clear hs; intro a hs
    refine wp_ret ?_
    refine th_ret ?_
    obtain rfl := Option.some.inj H
    refine ret1 (t := 6) (v := .bool false) hs (by kernel_rfl) (by kernel_rfl) ?_
    exact ⟨rfl, hw.only 0⟩
   ·replace H := ite_f H (ff hc)
    have hb86 := hc
    rw [hb86] at hs
    refine wp_skip ?_
    replace hw := hw.up 1
    replace hw := hw.up 1
    exact hJ3 v82 _ _ hs.kx hw H
  refine go_region ?_
  refine go_pvs 3 [7] [(45, .bool (!t8))] hs ?_; clear hs; intro a hs
  cases hb46 : (!t8)
  ·replace H := ite_t H (nf hb46)
   rw [hb46] at hs
   refine go_pvs 11 [15, 45] [(53, .bool (t32 != 0))] hs ?_; clear hs; intro a hs
   cases hb47 : (t32 != 0)
   ·replace H := ite_t H (bne_eq_false_iff_eq.1 hb47)
    rw [hb47] at hs
    refine go_pvs 14 [] [(56, .pointer (some (⟨g43, 0, none⟩ : Addr)))] hs ?_; clear hs; intro a hs
    obtain ⟨Aa48, Aa50, cc51, Aa53, cc54, hw⟩ := mSmachine_Machine.open1 hw
    replace hw : St [] w0 _ [box g43 40 ([.pointer Aa48] ++ eSapi_Regs.enc x38.s ++ [.int .u32 x38.pc, .int .i64 x38.status, .slice Aa50 x38.in'.length cc51, .slice Aa53 x38.out.length cc54]), oM mSmemory_Memory Aa48 x38.Memory, rdo (eI .u32) Aa50 cc51 x38.in', own 23 (eI .u32) Aa53 cc54 x38.out, own 26 eSapi_Regs (some ad2) 1 [a0]] := hw
    replace hw := hw.up 1
    obtain ⟨y56, hy57, H⟩ := bind_some H
    replace hw := St.oM_some hw hy57
    obtain ⟨g58, hAg, hwg⟩ := St.one hw
    clear hw; subst hAg; have hw := hwg; clear hwg
    replace hw : St [] w0 _ [own 75 eSmemory_Memory (some (⟨g58, 0, none⟩ : Addr)) 1 [y56], box g43 40 ([.pointer (some (⟨g58, 0, none⟩ : Addr))] ++ eSapi_Regs.enc x38.s ++ [.int .u32 x38.pc, .int .i64 x38.status, .slice Aa50 x38.in'.length cc51, .slice Aa53 x38.out.length cc54]), rdo (eI .u32) Aa50 cc51 x38.in', own 23 (eI .u32) Aa53 cc54 x38.out, own 26 eSapi_Regs (some ad2) 1 [a0]] := hw
    refine go_run hs (by rfl) (x_bld (g := g43) (o := 0) (p := (⟨g43, 0, none⟩ : Addr)) (v := .pointer (some (⟨g58, 0, none⟩ : Addr))) (hw.up 1)) [56] ?_; clear hs; intro a hs
    refine go_pvs 16 [10] [(58, .int .u32 t17)] hs ?_; clear hs; intro a hs
    obtain ⟨Aa59, cc60, wd61, hx62, hw⟩ := n_lit (P := Try.prog) (t := 22) (ty := 22) (T := 23) (len := 1) (parts := #[(0, (Operand.tmp 58))]) (z := .int .u32 0) (bytes := 4) (cells := #[.int .u32 t17]) hs hw (eI .u32) ([t17] : List Int) (by kernel_rfl) (by kernel_rfl) (by kernel_rfl) (by kernel_rfl) (by kernel_rfl) (by kernel_rfl) (by kernel_rfl)
    refine go_run hs (by rfl) hx62 [58] ?_; clear hs; intro a hs
    replace hw := hw.up 1
    obtain ⟨ks64, hgks64, hstks64, hbkks64⟩ := hw.lend 1
    obtain ⟨⟨t65, t66⟩, hx67, H⟩ := bind_some H
    refine go_call hs (by rfl) (memory_Memory_Place.calls ks64 (some (⟨g58, 0, none⟩ : Addr)) y56 0 Aa59 cc60 ([t17] : List Int) (t65, t66) _ hgks64 (fun wz hkz => (Rd.of_own ((hstks64 _ hkz).up 0))) hx67) ?_
    rintro e wd68 ⟨rfl, hw69⟩
    refine ⟨_, rfl, ?_⟩
    replace hw := hbkks64 _ _ hw69
    replace hw : St [] w0 _ [own 75 eSmemory_Memory (some (⟨g58, 0, none⟩ : Addr)) 1 [t66], own 23 (eI .u32) Aa59 cc60 ([t17] : List Int), box g43 40 ([.pointer (some (⟨g58, 0, none⟩ : Addr))] ++ eSapi_Regs.enc x38.s ++ [.int .u32 x38.pc, .int .i64 x38.status, .slice Aa50 x38.in'.length cc51, .slice Aa53 x38.out.length cc54]), rdo (eI .u32) Aa50 cc51 x38.in', own 23 (eI .u32) Aa53 cc54 x38.out, own 26 eSapi_Regs (some ad2) 1 [a0]] := hw
    clear hs; intro a hs; replace hs := hs.rms [57, 59]
    refine go_pvs 21 [53, 60] [(63, .bool (t65 != 0))] hs ?_; clear hs; intro a hs
    cases hb70 : (t65 != 0)
    ·replace H := ite_t H (bne_eq_false_iff_eq.1 hb70)
     rw [hb70] at hs
     refine go_pvs 24 [] [(66, .pointer (some (⟨g43, 0, none⟩ : Addr)))] hs ?_; clear hs; intro a hs
     refine go_run hs (by rfl) (x_bld (g := g43) (o := 0) (p := (⟨g43, 0, none⟩ : Addr)) (v := .pointer (some (⟨g58, 0, none⟩ : Addr))) (hw.up 2)) [66] ?_; clear hs; intro a hs
     refine go_pvs 28 [12] [(69, .int .i64 (w64 (1 + y13))), (70, .int .u32 t24)] hs ?_; clear hs; intro a hs
     obtain ⟨Aa71, cc72, wd73, hx74, hw⟩ := n_lit (P := Try.prog) (t := 22) (ty := 22) (T := 23) (len := 1) (parts := #[(0, (Operand.tmp 70))]) (z := .int .u32 0) (bytes := 4) (cells := #[.int .u32 t24]) hs hw (eI .u32) ([t24] : List Int) (by kernel_rfl) (by kernel_rfl) (by kernel_rfl) (by kernel_rfl) (by kernel_rfl) (by kernel_rfl) (by kernel_rfl)
     refine go_run hs (by rfl) hx74 [70] ?_; clear hs; intro a hs
     replace hw := hw.up 1
     obtain ⟨ks76, hgks76, hstks76, hbkks76⟩ := hw.lend 1
     obtain ⟨⟨t77, t78⟩, hx79, H⟩ := bind_some H
     refine go_call hs (by rfl) (memory_Memory_Place.calls ks76 (some (⟨g58, 0, none⟩ : Addr)) t66 (w64 (1 + y13)) Aa71 cc72 ([t24] : List Int) (t77, t78) _ hgks76 (fun wz hkz => (Rd.of_own ((hstks76 _ hkz).up 0))) hx79) ?_
     rintro e wd80 ⟨rfl, hw81⟩
     refine ⟨_, rfl, ?_⟩
     replace hw := hbkks76 _ _ hw81
     replace hw : St [] w0 _ [own 75 eSmemory_Memory (some (⟨g58, 0, none⟩ : Addr)) 1 [t78], own 23 (eI .u32) Aa71 cc72 ([t24] : List Int), own 23 (eI .u32) Aa59 cc60 ([t17] : List Int), box g43 40 ([.pointer (some (⟨g58, 0, none⟩ : Addr))] ++ eSapi_Regs.enc x38.s ++ [.int .u32 x38.pc, .int .i64 x38.status, .slice Aa50 x38.in'.length cc51, .slice Aa53 x38.out.length cc54]), rdo (eI .u32) Aa50 cc51 x38.in', own 23 (eI .u32) Aa53 cc54 x38.out, own 26 eSapi_Regs (some ad2) 1 [a0]] := hw
     clear hs; intro a hs; replace hs := hs.rms [67, 69, 71]
     refine go_pvs 32 [63, 72] [(74, .bool (t77 != 0))] hs ?_; clear hs; intro a hs
     refine go_end ?_
     replace hw := St.oM_of (m := mSmemory_Memory) (A := (some (⟨g58, 0, none⟩ : Addr))) (x := t78) hw
     replace hw := hw.up 5
     replace hw := hw.up 5
     replace hw := hw.up 2
     replace hw := hw.up 5
     replace hw := mSmachine_Machine.close (x := (⟨(some t78), x38.s, x38.pc, x38.status, x38.in', x38.out⟩ : Smachine_Machine)) hw
     replace hw := hw.up 3
     replace hw := hw.up 1
     replace hw := hw.only 2
     exact hJ2 (⟨(some t78), x38.s, x38.pc, x38.status, x38.in', x38.out⟩ : Smachine_Machine) (t77 != 0) _ _ hs.kx hw H
    ·replace H := ite_f H (bne_iff_ne.1 hb70)
     rw [hb70] at hs
     refine go_pvs 32 [12, 63] [(74, .bool true)] hs ?_; clear hs; intro a hs
     refine go_end ?_
     replace hw := St.oM_of (m := mSmemory_Memory) (A := (some (⟨g58, 0, none⟩ : Addr))) (x := t66) hw
     replace hw := hw.up 4
     replace hw := hw.up 4
     replace hw := hw.up 2
     replace hw := hw.up 4
     replace hw := mSmachine_Machine.close (x := (⟨(some t66), x38.s, x38.pc, x38.status, x38.in', x38.out⟩ : Smachine_Machine)) hw
     replace hw := hw.up 2
     replace hw := hw.up 1
     replace hw := hw.only 2
     exact hJ2 (⟨(some t66), x38.s, x38.pc, x38.status, x38.in', x38.out⟩ : Smachine_Machine) true _ _ hs.kx hw H
   ·replace H := ite_f H (bne_iff_ne.1 hb47)
    rw [hb47] at hs
    refine go_pvs 32 [10, 12, 53] [(74, .bool true)] hs ?_; clear hs; intro a hs
    refine go_end ?_
    replace hw := hw.up 1
    replace hw := hw.up 1
    exact hJ2 x38 true _ _ hs.kx hw H
  ·replace H := ite_f H (ff (nt hb46))
   rw [hb46] at hs
   refine go_pvs 32 [10, 12, 15, 45] [(74, .bool true)] hs ?_; clear hs; intro a hs
   refine go_end ?_
   replace hw := hw.up 1
   replace hw := hw.up 1
   exact hJ2 x38 true _ _ hs.kx hw H

end Go.Proofs.Ytheccnbamcdpmaa.T06
