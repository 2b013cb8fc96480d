/- YtheccnbamcdpmaaDoorT12zLoadAll: Go functions told as plain ones, each with a proof that its call comes to what is told, part 1. Condition of each: that the plain function comes to a value. -/
import Derived.Test.YtheccnbamcdpmaaDoorT12
import Derived.Test.YtheccnbamcdpmaaDoorEP
import Derived.Test.YtheccnbamcdpmaaDoorProg
namespace Go.Proofs.YtheccnbamcdpmaaDoor.T12
open Go Go.RowKit Go.Proofs.YtheccnbamcdpmaaDoor.E
set_option linter.unusedVariables false
set_option linter.unusedSimpArgs false
def eA48 : Enc (Vector Int 16) := ⟨16, fun x => [.int .u32 (vx 0 x 0), .int .u32 (vx 0 x 1), .int .u32 (vx 0 x 2), .int .u32 (vx 0 x 3), .int .u32 (vx 0 x 4), .int .u32 (vx 0 x 5), .int .u32 (vx 0 x 6), .int .u32 (vx 0 x 7), .int .u32 (vx 0 x 8), .int .u32 (vx 0 x 9), .int .u32 (vx 0 x 10), .int .u32 (vx 0 x 11), .int .u32 (vx 0 x 12), .int .u32 (vx 0 x 13), .int .u32 (vx 0 x 14), .int .u32 (vx 0 x 15)], (Vector.replicate 16 0), by decide, fun _ => rfl, fun x u hu => by simp at hu; rcases hu with rfl | rfl | rfl | rfl | rfl | rfl | rfl | rfl | rfl | rfl | rfl | rfl | rfl | rfl | rfl | rfl <;> rfl⟩
/-! rivet/rivetlaw12.LoadAll: function 5 -/
noncomputable def rivetlaw12_LoadAll.j3 : Option Bool := some true
noncomputable def rivetlaw12_LoadAll.j2 : Option Bool := rivetlaw12_LoadAll.j3
noncomputable def rivetlaw12_LoadAll.j1 (v138 : Bool) : Option Bool := (if v138 = true then some false else rivetlaw12_LoadAll.j2)
noncomputable def rivetlaw12_LoadAll.j6 : Option Bool := some true
noncomputable def rivetlaw12_LoadAll.j5 : Option Bool := rivetlaw12_LoadAll.j6
noncomputable def rivetlaw12_LoadAll.j4 (v168 : Bool) : Option Bool := (if v168 = true then some false else rivetlaw12_LoadAll.j5)
noncomputable def rivetlaw12_LoadAll.j9 : Option Bool := some true
noncomputable def rivetlaw12_LoadAll.j8 : Option Bool := rivetlaw12_LoadAll.j9
noncomputable def rivetlaw12_LoadAll.j7 (v224 : Bool) : Option Bool := (if v224 = true then some false else rivetlaw12_LoadAll.j8)
noncomputable def rivetlaw12_LoadAll.j14 (v322 : Bool) : Option Bool := some v322
noncomputable def rivetlaw12_LoadAll.j13 (x89 : Smachine_Machine) (x201 : Srivetref06_Machine) : Option Bool := ((x89.Memory).bind fun y269 => (((x201.M).bind fun y280 => (((memory_Memory_Words y269).bind fun t284 => (((rivetref05_Memory_Words y280).bind fun t292 => (((rivetref05_Same t284 t292).bind fun t300 => ((if t300 = true then ((machine_Machine_Regs x89).bind fun t306 => ((if ((decide (t306.R = x201.S.R)) && ((t306.H == x201.S.H) && ((t306.N == x201.S.N) && ((t306.Z == x201.S.Z) && ((t306.C == x201.S.C) && ((t306.V == x201.S.V) && true)))))) = true then ((machine_Machine_PC x89).bind fun t312 => ((if t312 = x201.PC then ((machine_Machine_Status x89).bind fun t318 => (rivetlaw12_LoadAll.j14 (t318 == x201.Status))) else rivetlaw12_LoadAll.j14 false))) else rivetlaw12_LoadAll.j14 false))) else rivetlaw12_LoadAll.j14 false)))))))))))
noncomputable def rivetlaw12_LoadAll.j12 (x89 : Smachine_Machine) (x201 : Srivetref06_Machine) : Option Bool := rivetlaw12_LoadAll.j13 x89 x201
noncomputable def rivetlaw12_LoadAll.j11 (x89 : Smachine_Machine) (x201 : Srivetref06_Machine) : Option Bool := rivetlaw12_LoadAll.j12 x89 x201
noncomputable def rivetlaw12_LoadAll.j10 (x89 : Smachine_Machine) (x201 : Srivetref06_Machine) (v254 : Bool) : Option Bool := (if v254 = true then some false else rivetlaw12_LoadAll.j11 x89 x201)
noncomputable def rivetlaw12_LoadAll (a0 : Sapi_Obj) (a1 : Int) (a2 : Int) : Option Bool := ((rivetlaw12_shown).bind fun t8 => (((rivetlaw12_few a0).bind fun t14 => (((load_Image t14 a1).bind fun ⟨t30, t31⟩ => (((rivetlaw12_few a0).bind fun t40 => (((rivetref12_Image t40 a1).bind fun ⟨t56, t57⟩ => (((rivetlaw12_few a0).bind fun t66 => (((load_Machine t66 a1 a2 ([] : List Int)).bind fun ⟨t82, t83⟩ => ((match t82 with | none => ((rivetlaw12_few a0).bind fun t92 => (((rivetref12_Machine t92 a1 a2 ([] : List Int)).bind fun ⟨t108, t109⟩ => ((match t108 with | none => (if t8 = true then ((rivetref05_Same t30 t56).bind fun t120 => ((if t120 = true then (if t31 = t57 then (if t83 = t109 then (if (true != (t83 != 0)) = true then rivetlaw12_LoadAll.j1 true else ((load_Regs a1 a2).bind fun t129 => (((rivetref12_Regs a1 a2).bind fun t134 => (rivetlaw12_LoadAll.j1 (!((decide (t129.R = t134.R)) && ((t129.H == t134.H) && ((t129.N == t134.N) && ((t129.Z == t134.Z) && ((t129.C == t134.C) && ((t129.V == t134.V) && true)))))))))))) else rivetlaw12_LoadAll.j1 true) else rivetlaw12_LoadAll.j1 true) else rivetlaw12_LoadAll.j1 true))) else rivetlaw12_LoadAll.j1 true) | some x115 => (if t8 = true then ((rivetref05_Same t30 t56).bind fun t150 => ((if t150 = true then (if t31 = t57 then (if t83 = t109 then (if (true != (t83 != 0)) = true then rivetlaw12_LoadAll.j4 true else ((load_Regs a1 a2).bind fun t159 => (((rivetref12_Regs a1 a2).bind fun t164 => (rivetlaw12_LoadAll.j4 (!((decide (t159.R = t164.R)) && ((t159.H == t164.H) && ((t159.N == t164.N) && ((t159.Z == t164.Z) && ((t159.C == t164.C) && ((t159.V == t164.V) && true)))))))))))) else rivetlaw12_LoadAll.j4 true) else rivetlaw12_LoadAll.j4 true) else rivetlaw12_LoadAll.j4 true))) else rivetlaw12_LoadAll.j4 true)))))) | some x89 => ((rivetlaw12_few a0).bind fun t178 => (((rivetref12_Machine t178 a1 a2 ([] : List Int)).bind fun ⟨t194, t195⟩ => ((match t194 with | none => (if t8 = true then ((rivetref05_Same t30 t56).bind fun t206 => ((if t206 = true then (if t31 = t57 then (if t83 = t195 then (if (false != (t83 != 0)) = true then rivetlaw12_LoadAll.j7 true else ((load_Regs a1 a2).bind fun t215 => (((rivetref12_Regs a1 a2).bind fun t220 => (rivetlaw12_LoadAll.j7 (!((decide (t215.R = t220.R)) && ((t215.H == t220.H) && ((t215.N == t220.N) && ((t215.Z == t220.Z) && ((t215.C == t220.C) && ((t215.V == t220.V) && true)))))))))))) else rivetlaw12_LoadAll.j7 true) else rivetlaw12_LoadAll.j7 true) else rivetlaw12_LoadAll.j7 true))) else rivetlaw12_LoadAll.j7 true) | some x201 => (if t8 = true then ((rivetref05_Same t30 t56).bind fun t236 => ((if t236 = true then (if t31 = t57 then (if t83 = t195 then (if (false != (t83 != 0)) = true then rivetlaw12_LoadAll.j10 x89 x201 true else ((load_Regs a1 a2).bind fun t245 => (((rivetref12_Regs a1 a2).bind fun t250 => (rivetlaw12_LoadAll.j10 x89 x201 (!((decide (t245.R = t250.R)) && ((t245.H == t250.H) && ((t245.N == t250.N) && ((t245.Z == t250.Z) && ((t245.C == t250.C) && ((t245.V == t250.V) && true)))))))))))) else rivetlaw12_LoadAll.j10 x89 x201 true) else rivetlaw12_LoadAll.j10 x89 x201 true) else rivetlaw12_LoadAll.j10 x89 x201 true))) else rivetlaw12_LoadAll.j10 x89 x201 true)))))))))))))))))))))
set_option maxRecDepth 100000 in
set_option maxHeartbeats 4000000 in
theorem rivetlaw12_LoadAll.calls (a0 : Sapi_Obj) (A0_1 : Option Addr) (c0_1 : Nat) (A0_2 : Option Addr) (c0_2 : Nat) (A0_3 : Option Addr) (c0_3 : Nat) (a1 : Int) (a2 : Int) (r : Bool) (w0 : World) (hr0_1 : Rd w0 (eI .u32) A0_1 c0_1 a0.Words) (hr0_2 : Rd w0 (eI .i64) A0_2 c0_2 a0.Sites) (hr0_3 : Rd w0 eSapi_Sym A0_3 c0_3 a0.Syms) (H : rivetlaw12_LoadAll a0 a1 a2 = some r) :
    Calls Tryd.prog 5 #[.agg #[.slice A0_1 a0.Words.length c0_1, .slice A0_2 a0.Sites.length c0_2, .slice A0_3 a0.Syms.length c0_3], .int .i64 a1, .int .i64 a2] w0 fun e w' => e = .returned (.bool r) ∧ St [] w0 w' [] := by
 have hw : St [] w0 w0 [] := St.nil w0
 unfold rivetlaw12_LoadAll at H
 refine go_fn Tryd.func5 rfl Tryd.ntmps5 ?_; intro a hs
 refine go_sk fun K1 hK1 => ?_
 obtain ⟨g2, wd3, hx4, hw⟩ := x_boxc (P := Tryd.prog) (elem := 32) (v := (Operand.tmp 0)) (ty := 0) (cs := [.slice A0_1 a0.Words.length c0_1, .slice A0_2 a0.Sites.length c0_2, .slice A0_3 a0.Syms.length c0_3]) hs hw (by kernel_rfl)
 refine go_run hs (by rfl) hx4 [0] ?_; clear hs; intro a hs
 refine go_pvs 2 [] [] hs ?_; clear hs; intro a hs
 refine go_end (hK1 _ _ ?_)
 refine go_sk fun K6 hK6 => ?_
 obtain ⟨t8, hx9, H⟩ := bind_some H
 refine go_call hs (by rfl) (rivetlaw12_shown.calls t8 _ hx9) ?_
 rintro e wd10 ⟨rfl, hw11⟩
 refine ⟨_, rfl, ?_⟩
 replace hw := hw.call hw11
 clear hs; intro a hs
 refine go_pvs 2 [16] [(7, .bool t8)] hs ?_; clear hs; intro a hs
 refine go_end (hK6 _ _ ?_)
 refine go_sk fun K12 hK12 => ?_
 refine go_run hs (by rfl) (x_blds (g := g2) (o := 0) (p := (⟨g2, 0, none⟩ : Addr)) (vs := [.slice A0_1 a0.Words.length c0_1, .slice A0_2 a0.Sites.length c0_2, .slice A0_3 a0.Syms.length c0_3]) (hw.up 0)) [] ?_; clear hs; intro a hs
 obtain ⟨t14, hx15, H⟩ := bind_some H
 refine go_call hs (by rfl) (rivetlaw12_few.calls a0 A0_1 c0_1 A0_2 c0_2 A0_3 c0_3 t14 _ (hr0_1.old hw) (hr0_2.old hw) (hr0_3.old hw) hx15) ?_
 rintro e wd22 ⟨Aa16, cc17, Aa18, cc19, Aa20, cc21, rfl, hc24, hc25, hw23⟩
 refine ⟨_, rfl, ?_⟩
 replace hw := hw.call hw23
 clear hs; intro a hs; replace hs := hs.rms [18]
 refine go_pvs 3 [] [(20, .int .i64 a1)] hs ?_; clear hs; intro a hs
 obtain ⟨⟨t30, t31⟩, hx32, H⟩ := bind_some H
 refine go_call hs (by rfl) (load_Image.calls t14 Aa16 cc17 Aa18 cc19 Aa20 cc21 a1 (t30, t31) _ (hc24 _ (hr0_1.old hw)) (hc25 _ (hr0_2.old hw)) (Rd.of_own (hw.up 0)) hx32) ?_
 rintro e wd35 ⟨Aa33, cc34, rfl, hw36⟩
 refine ⟨_, rfl, ?_⟩
 replace hw := hw.call hw36
 clear hs; intro a hs; replace hs := hs.rms [19, 20]
 refine go_pvs 9 [21] [(8, .slice Aa33 t30.length cc34), (9, .int .i64 t31)] hs ?_; clear hs; intro a hs
 refine go_end (hK12 _ _ ?_)
 refine go_sk fun K38 hK38 => ?_
 refine go_run hs (by rfl) (x_blds (g := g2) (o := 0) (p := (⟨g2, 0, none⟩ : Addr)) (vs := [.slice A0_1 a0.Words.length c0_1, .slice A0_2 a0.Sites.length c0_2, .slice A0_3 a0.Syms.length c0_3]) (hw.up 2)) [] ?_; clear hs; intro a hs
 obtain ⟨t40, hx41, H⟩ := bind_some H
 refine go_call hs (by rfl) (rivetlaw12_few.calls a0 A0_1 c0_1 A0_2 c0_2 A0_3 c0_3 t40 _ (hr0_1.old hw) (hr0_2.old hw) (hr0_3.old hw) hx41) ?_
 rintro e wd48 ⟨Aa42, cc43, Aa44, cc45, Aa46, cc47, rfl, hc50, hc51, hw49⟩
 refine ⟨_, rfl, ?_⟩
 replace hw := hw.call hw49
 clear hs; intro a hs; replace hs := hs.rms [25]
 refine go_pvs 3 [] [(27, .int .i64 a1)] hs ?_; clear hs; intro a hs
 obtain ⟨⟨t56, t57⟩, hx58, H⟩ := bind_some H
 refine go_call hs (by rfl) (rivetref12_Image.calls t40 Aa42 cc43 Aa44 cc45 Aa46 cc47 a1 (t56, t57) _ (hc50 _ (hr0_1.old hw)) (hc51 _ (hr0_2.old hw)) (Rd.of_own (hw.up 0)) hx58) ?_
 rintro e wd61 ⟨Aa59, cc60, rfl, hw62⟩
 refine ⟨_, rfl, ?_⟩
 replace hw := hw.call hw62
 clear hs; intro a hs; replace hs := hs.rms [26, 27]
 refine go_pvs 9 [28] [(10, .slice Aa59 t56.length cc60), (11, .int .i64 t57)] hs ?_; clear hs; intro a hs
 refine go_end (hK38 _ _ ?_)
 refine go_sk fun K64 hK64 => ?_
 refine go_run hs (by rfl) (x_blds (g := g2) (o := 0) (p := (⟨g2, 0, none⟩ : Addr)) (vs := [.slice A0_1 a0.Words.length c0_1, .slice A0_2 a0.Sites.length c0_2, .slice A0_3 a0.Syms.length c0_3]) (hw.up 4)) [] ?_; clear hs; intro a hs
 obtain ⟨t66, hx67, H⟩ := bind_some H
 refine go_call hs (by rfl) (rivetlaw12_few.calls a0 A0_1 c0_1 A0_2 c0_2 A0_3 c0_3 t66 _ (hr0_1.old hw) (hr0_2.old hw) (hr0_3.old hw) hx67) ?_
 rintro e wd74 ⟨Aa68, cc69, Aa70, cc71, Aa72, cc73, rfl, hc76, hc77, hw75⟩
 refine ⟨_, rfl, ?_⟩
 replace hw := hw.call hw75
 clear hs; intro a hs; replace hs := hs.rms [32]
 refine go_pvs 4 [] [(34, .int .i64 a1), (35, .int .i64 a2)] hs ?_; clear hs; intro a hs
 obtain ⟨⟨t82, t83⟩, hx84, H⟩ := bind_some H
 refine go_call hs (by rfl) (load_Machine.calls t66 Aa68 cc69 Aa70 cc71 Aa72 cc73 a1 a2 none 0 ([] : List Int) (t82, t83) _ (hc76 _ (hr0_1.old hw)) (hc77 _ (hr0_2.old hw)) (Rd.of_own (hw.up 0)) (Rd.nil _ _) hx84) ?_
 rintro e wd86 ⟨Aa85, rfl, hw87⟩
 refine ⟨_, rfl, ?_⟩
 replace hw := hw.call hw87
 clear hs; intro a hs; replace hs := hs.rms [33, 34, 35]
 rcases t82 with _ | x89
 ·obtain ⟨hAg, hwg⟩ := St.oM_none hw
  clear hw; subst hAg; have hw := hwg; clear hwg
  refine go_pvs 10 [36] [(12, .pointer none), (13, .int .i64 t83)] hs ?_; clear hs; intro a hs
  refine go_end (hK64 _ _ ?_)
  refine go_sk fun K90 hK90 => ?_
  refine go_run hs (by rfl) (x_blds (g := g2) (o := 0) (p := (⟨g2, 0, none⟩ : Addr)) (vs := [.slice A0_1 a0.Words.length c0_1, .slice A0_2 a0.Sites.length c0_2, .slice A0_3 a0.Syms.length c0_3]) (hw.up 5)) [3] ?_; clear hs; intro a hs
  obtain ⟨t92, hx93, H⟩ := bind_some H
  refine go_call hs (by rfl) (rivetlaw12_few.calls a0 A0_1 c0_1 A0_2 c0_2 A0_3 c0_3 t92 _ (hr0_1.old hw) (hr0_2.old hw) (hr0_3.old hw) hx93) ?_
  rintro e wd100 ⟨Aa94, cc95, Aa96, cc97, Aa98, cc99, rfl, hc102, hc103, hw101⟩
  refine ⟨_, rfl, ?_⟩
  replace hw := hw.call hw101
  clear hs; intro a hs; replace hs := hs.rms [40]
  refine go_pvs 4 [] [(42, .int .i64 a1), (43, .int .i64 a2)] hs ?_; clear hs; intro a hs
  obtain ⟨⟨t108, t109⟩, hx110, H⟩ := bind_some H
  refine go_call hs (by rfl) (rivetref12_Machine.calls t92 Aa94 cc95 Aa96 cc97 Aa98 cc99 a1 a2 none 0 ([] : List Int) (t108, t109) _ (hc102 _ (hr0_1.old hw)) (hc103 _ (hr0_2.old hw)) (Rd.of_own (hw.up 0)) (Rd.nil _ _) hx110) ?_
  rintro e wd112 ⟨Aa111, rfl, hw113⟩
  refine ⟨_, rfl, ?_⟩
  replace hw := hw.call hw113
  clear hs; intro a hs; replace hs := hs.rms [41, 42, 43]
  rcases t108 with _ | x115
  ·obtain ⟨hAg, hwg⟩ := St.oM_none hw
   clear hw; subst hAg; have hw := hwg; clear hwg
   refine go_pvs 10 [44] [(14, .pointer none), (15, .int .i64 t109)] hs ?_; clear hs; intro a hs
   refine go_end (hK90 _ _ ?_)
   refine go_seq_k fun K116 hK116 => ?_
   have hJ2 : ∀ (a : Act) (w : World), Slots a 125 [(12, .pointer none), (14, .pointer none)] → St [] w0 w [own 72 eSapi_Sym Aa98 cc99 t92.Syms, own 72 eSapi_Sym Aa72 cc73 t66.Syms, own 38 (eI .u32) Aa59 cc60 t56, own 72 eSapi_Sym Aa46 cc47 t40.Syms, own 38 (eI .u32) Aa33 cc34 t30, own 72 eSapi_Sym Aa20 cc21 t14.Syms, box g2 32 [.slice A0_1 a0.Words.length c0_1, .slice A0_2 a0.Sites.length c0_2, .slice A0_3 a0.Syms.length c0_3]] → rivetlaw12_LoadAll.j2 = some r → K116 a w := by
    intro a w hs hw H
    unfold rivetlaw12_LoadAll.j2 at H
    refine hK116 _ _ ?_
    refine go_seq_k fun K142 hK142 => ?_
    refine go_seq_k fun K143 hK143 => ?_
    have hJ3 : ∀ (a : Act) (w : World), Slots a 125 [(12, .pointer none), (14, .pointer none), (86, .bool true)] → St [] w0 w [own 72 eSapi_Sym Aa98 cc99 t92.Syms, own 72 eSapi_Sym Aa72 cc73 t66.Syms, own 38 (eI .u32) Aa59 cc60 t56, own 72 eSapi_Sym Aa46 cc47 t40.Syms, own 38 (eI .u32) Aa33 cc34 t30, own 72 eSapi_Sym Aa20 cc21 t14.Syms, box g2 32 [.slice A0_1 a0.Words.length c0_1, .slice A0_2 a0.Sites.length c0_2, .slice A0_3 a0.Syms.length c0_3]] → rivetlaw12_LoadAll.j3 = some r → K143 a w := by
     intro a w hs hw H
     unfold rivetlaw12_LoadAll.j3 at H
     refine hK143 _ _ ?_
     refine go_cond hs true (fun hc => ?_) fun hc => ?_
     ·skip
      refine go_sp [12, 14, 86] [(6, .bool true)] hs ?_; clear hs; intro a hs
      refine wp_ret ?_
      refine th_ret ?_
      obtain rfl := Option.some.inj H
      refine ret1 (t := 6) (v := .bool true) hs (by kernel_rfl) (by kernel_rfl) ?_
      exact ⟨rfl, hw.only 0⟩
     ·cases hc
    refine go_plain [] [(86, .bool true)] hs ?_; clear hs; intro a hs
    replace hw := hw.up 6
    replace hw := hw.up 6
    replace hw := hw.up 6
    replace hw := hw.up 6
    replace hw := hw.up 6
    replace hw := hw.up 6
    replace hw := hw.up 6
    exact hJ3 _ _ hs.kx hw H
   refine go_seq_k fun K117 hK117 => ?_
   have hJ1 : ∀ (v138 : Bool) (a : Act) (w : World), Slots a 125 [(12, .pointer none), (14, .pointer none), (80, .bool v138)] → St [] w0 w [own 72 eSapi_Sym Aa98 cc99 t92.Syms, own 72 eSapi_Sym Aa72 cc73 t66.Syms, own 38 (eI .u32) Aa59 cc60 t56, own 72 eSapi_Sym Aa46 cc47 t40.Syms, own 38 (eI .u32) Aa33 cc34 t30, own 72 eSapi_Sym Aa20 cc21 t14.Syms, box g2 32 [.slice A0_1 a0.Words.length c0_1, .slice A0_2 a0.Sites.length c0_2, .slice A0_3 a0.Syms.length c0_3]] → rivetlaw12_LoadAll.j1 v138 = some r → K117 a w := by
    intro v138 a w hs hw H
    unfold rivetlaw12_LoadAll.j1 at H
    refine hK117 _ _ ?_
    refine go_cond hs v138 (fun hc => ?_) fun hc => ?_
    ·replace H := ite_t H hc
     have hb139 := hc
     rw [hb139] at hs
     refine go_sp [12, 14, 80] [(6, .bool false)] hs ?_; clear hs; intro a hs
     refine wp_ret ?_
     refine th_ret ?_
     obtain rfl := Option.some.inj H
     refine ret1 (t := 6) (v := .bool false) hs (by kernel_rfl) (by kernel_rfl) ?_
     exact ⟨rfl, hw.only 0⟩
    ·replace H := ite_f H (ff hc)
     have hb141 := hc
     rw [hb141] at hs
     refine wp_skip ?_
     replace hw := hw.up 6
     replace hw := hw.up 6
     replace hw := hw.up 6
     replace hw := hw.up 6
     replace hw := hw.up 6
     replace hw := hw.up 6
     replace hw := hw.up 6
     exact hJ2 _ _ hs.kx hw H
   refine go_region ?_
   refine go_pvs 3 [7] [(49, .bool (!t8))] hs ?_; clear hs; intro a hs
   replace hs : Slots a 125 [(1, .int .i64 a1), (2, .int .i64 a2), (8, .slice Aa33 t30.length cc34), (9, .int .i64 t31), (10, .slice Aa59 t56.length cc60), (11, .int .i64 t57), (12, .pointer none), (13, .int .i64 t83), (14, .pointer none), (15, .int .i64 t109), (49, .bool (!t8))] := hs.kx
   cases hb118 : (!t8)
   ·replace H := ite_t H (nf hb118)
    rw [hb118] at hs
    refine go_pvs 5 [8, 10] [(50, .slice Aa33 t30.length cc34), (51, .slice Aa59 t56.length cc60)] hs ?_; clear hs; intro a hs
    obtain ⟨t120, hx121, H⟩ := bind_some H
    refine go_call hs (by rfl) (rivetref05_Same.calls Aa33 cc34 t30 Aa59 cc60 t56 t120 _ (Rd.of_own (hw.up 4)) (Rd.of_own (hw.up 2)) hx121) ?_
    rintro e wd122 ⟨rfl, hw123⟩
    refine ⟨_, rfl, ?_⟩
    replace hw := hw.call hw123
    clear hs; intro a hs; replace hs := hs.rms [50, 51]
    refine go_pvs 9 [49, 52] [(55, .bool (!t120))] hs ?_; clear hs; intro a hs
    cases hb124 : (!t120)
    ·replace H := ite_t H (nf hb124)
     rw [hb124] at hs
     refine go_pvs 14 [9, 11, 55] [(60, .bool (t31 != t57))] hs ?_; clear hs; intro a hs
     cases hb125 : (t31 != t57)
     ·replace H := ite_t H (bne_eq_false_iff_eq.1 hb125)
      rw [hb125] at hs
      refine go_pvs 19 [15, 60] [(65, .bool (t83 != t109))] hs ?_; clear hs; intro a hs
      cases hb126 : (t83 != t109)
      ·replace H := ite_t H (bne_eq_false_iff_eq.1 hb126)
       rw [hb126] at hs
       refine go_pvs 26 [13, 65] [(72, .bool (true != (t83 != 0)))] hs ?_; clear hs; intro a hs
       cases hb127 : (true != (t83 != 0))
       ·replace H := ite_f H (ff hb127)
        rw [hb127] at hs
        refine go_pvs 28 [] [(73, .int .i64 a1), (74, .int .i64 a2)] hs ?_; clear hs; intro a hs
        obtain ⟨t129, hx130, H⟩ := bind_some H
        refine go_call hs (by rfl) (load_Regs.calls a1 a2 t129 _ hx130) ?_
        rintro e wd131 ⟨rfl, hw132⟩
        refine ⟨_, rfl, ?_⟩
        replace hw := hw.call hw132
        clear hs; intro a hs; replace hs := hs.rms [73, 74]
        refine go_pvs 31 [1, 2] [(76, .int .i64 a1), (77, .int .i64 a2)] hs ?_; clear hs; intro a hs
        obtain ⟨t134, hx135, H⟩ := bind_some H
        refine go_call hs (by rfl) (rivetref12_Regs.calls a1 a2 t134 _ hx135) ?_
        rintro e wd136 ⟨rfl, hw137⟩
        refine ⟨_, rfl, ?_⟩
        replace hw := hw.call hw137
        clear hs; intro a hs; replace hs := hs.rms [76, 77]
        refine go_run hs (by rfl) (x_neq (xs := (eSapi_Regs.enc t129).toArray) (ys := (eSapi_Regs.enc t134).toArray) (r := ((decide (t129.R = t134.R)) && ((t129.H == t134.H) && ((t129.N == t134.N) && ((t129.Z == t134.Z) && ((t129.C == t134.C) && ((t129.V == t134.V) && true))))))) (by kernel_rfl) (by kernel_rfl) (by kernel_rfl) (eq_struct Tryd.underlying50 (by kernel_rfl) (eq_cons (a := .agg (eA48.enc t129.R).toArray) (b := .agg (eA48.enc t134.R).toArray) (r := (decide (t129.R = t134.R))) (s := ((t129.H == t134.H) && ((t129.N == t134.N) && ((t129.Z == t134.Z) && ((t129.C == t134.C) && ((t129.V == t134.V) && true)))))) (by kernel_rfl) (part_pv (by kernel_rfl)) (part_pv (by kernel_rfl)) (eq_vec (e := 38) (k' := .u32) (k := .u32) t129.R t134.R (by kernel_rfl) (by kernel_rfl) (by kernel_rfl) (by kernel_rfl) (by kernel_rfl)) (eq_cons (a := .int .u32 t129.H) (b := .int .u32 t134.H) (r := (t129.H == t134.H)) (s := ((t129.N == t134.N) && ((t129.Z == t134.Z) && ((t129.C == t134.C) && ((t129.V == t134.V) && true))))) (by kernel_rfl) (part_pv (by kernel_rfl)) (part_pv (by kernel_rfl)) (eq_pv (by kernel_rfl)) (eq_cons (a := .bool t129.N) (b := .bool t134.N) (r := (t129.N == t134.N)) (s := ((t129.Z == t134.Z) && ((t129.C == t134.C) && ((t129.V == t134.V) && true)))) (by kernel_rfl) (part_pv (by kernel_rfl)) (part_pv (by kernel_rfl)) (eq_pv (by kernel_rfl)) (eq_cons (a := .bool t129.Z) (b := .bool t134.Z) (r := (t129.Z == t134.Z)) (s := ((t129.C == t134.C) && ((t129.V == t134.V) && true))) (by kernel_rfl) (part_pv (by kernel_rfl)) (part_pv (by kernel_rfl)) (eq_pv (by kernel_rfl)) (eq_cons (a := .bool t129.C) (b := .bool t134.C) (r := (t129.C == t134.C)) (s := ((t129.V == t134.V) && true)) (by kernel_rfl) (part_pv (by kernel_rfl)) (part_pv (by kernel_rfl)) (eq_pv (by kernel_rfl)) (eq_cons (a := .bool t129.V) (b := .bool t134.V) (r := (t129.V == t134.V)) (s := true) (by kernel_rfl) (part_pv (by kernel_rfl)) (part_pv (by kernel_rfl)) (eq_pv (by kernel_rfl)) eq_nil)))))))) [75, 78] ?_; clear hs; intro a hs
        refine go_pvs 34 [72, 79] [(80, .bool (!((decide (t129.R = t134.R)) && ((t129.H == t134.H) && ((t129.N == t134.N) && ((t129.Z == t134.Z) && ((t129.C == t134.C) && ((t129.V == t134.V) && true))))))))] hs ?_; clear hs; intro a hs
        refine go_end ?_
        replace hw := hw.up 6
        replace hw := hw.up 6
        replace hw := hw.up 6
        replace hw := hw.up 6
        replace hw := hw.up 6
        replace hw := hw.up 6
        replace hw := hw.up 6
        exact hJ1 (!((decide (t129.R = t134.R)) && ((t129.H == t134.H) && ((t129.N == t134.N) && ((t129.Z == t134.Z) && ((t129.C == t134.C) && ((t129.V == t134.V) && true))))))) _ _ hs.kx hw H
       ·replace H := ite_t H hb127
        rw [hb127] at hs
        refine go_pvs 34 [1, 2, 72] [(80, .bool true)] hs ?_; clear hs; intro a hs
        refine go_end ?_
        replace hw := hw.up 6
        replace hw := hw.up 6
        replace hw := hw.up 6
        replace hw := hw.up 6
        replace hw := hw.up 6
        replace hw := hw.up 6
        replace hw := hw.up 6
        exact hJ1 true _ _ hs.kx hw H
      ·replace H := ite_f H (bne_iff_ne.1 hb126)
       rw [hb126] at hs
       refine go_pvs 34 [1, 2, 13, 65] [(80, .bool true)] hs ?_; clear hs; intro a hs
       refine go_end ?_
       replace hw := hw.up 6
       replace hw := hw.up 6
       replace hw := hw.up 6
       replace hw := hw.up 6
       replace hw := hw.up 6
       replace hw := hw.up 6
       replace hw := hw.up 6
       exact hJ1 true _ _ hs.kx hw H
     ·replace H := ite_f H (bne_iff_ne.1 hb125)
      rw [hb125] at hs
      refine go_pvs 34 [1, 2, 13, 15, 60] [(80, .bool true)] hs ?_; clear hs; intro a hs
      refine go_end ?_
      replace hw := hw.up 6
      replace hw := hw.up 6
      replace hw := hw.up 6
      replace hw := hw.up 6
      replace hw := hw.up 6
      replace hw := hw.up 6
      replace hw := hw.up 6
      exact hJ1 true _ _ hs.kx hw H
    ·replace H := ite_f H (ff (nt hb124))
     rw [hb124] at hs
     refine go_pvs 34 [1, 2, 9, 11, 13, 15, 55] [(80, .bool true)] hs ?_; clear hs; intro a hs
     refine go_end ?_
     replace hw := hw.up 6
     replace hw := hw.up 6
     replace hw := hw.up 6
     replace hw := hw.up 6
     replace hw := hw.up 6
     replace hw := hw.up 6
     replace hw := hw.up 6
     exact hJ1 true _ _ hs.kx hw H
   ·replace H := ite_f H (ff (nt hb118))
    rw [hb118] at hs
    refine go_pvs 34 [1, 2, 8, 9, 10, 11, 13, 15, 49] [(80, .bool true)] hs ?_; clear hs; intro a hs
    refine go_end ?_
    replace hw := hw.up 6
    replace hw := hw.up 6
    replace hw := hw.up 6
    replace hw := hw.up 6
    replace hw := hw.up 6
    replace hw := hw.up 6
    replace hw := hw.up 6
    exact hJ1 true _ _ hs.kx hw H
  ·replace hw : St [] w0 _ [mSrivetref06_Machine Aa111 x115, own 72 eSapi_Sym Aa98 cc99 t92.Syms, own 72 eSapi_Sym Aa72 cc73 t66.Syms, own 38 (eI .u32) Aa59 cc60 t56, own 72 eSapi_Sym Aa46 cc47 t40.Syms, own 38 (eI .u32) Aa33 cc34 t30, own 72 eSapi_Sym Aa20 cc21 t14.Syms, box g2 32 [.slice A0_1 a0.Words.length c0_1, .slice A0_2 a0.Sites.length c0_2, .slice A0_3 a0.Syms.length c0_3]] := hw
   obtain ⟨g145, hAg, hwg⟩ := mSrivetref06_Machine.addr hw
   clear hw; subst hAg; have hw := hwg; clear hwg
   replace hw : St [] w0 _ [mSrivetref06_Machine (some ⟨g145, 0, none⟩) x115, own 72 eSapi_Sym Aa98 cc99 t92.Syms, own 72 eSapi_Sym Aa72 cc73 t66.Syms, own 38 (eI .u32) Aa59 cc60 t56, own 72 eSapi_Sym Aa46 cc47 t40.Syms, own 38 (eI .u32) Aa33 cc34 t30, own 72 eSapi_Sym Aa20 cc21 t14.Syms, box g2 32 [.slice A0_1 a0.Words.length c0_1, .slice A0_2 a0.Sites.length c0_2, .slice A0_3 a0.Syms.length c0_3]] := hw
   refine go_pvs 10 [44] [(14, .pointer (some (⟨g145, 0, none⟩ : Addr))), (15, .int .i64 t109)] hs ?_; clear hs; intro a hs
   refine go_end (hK90 _ _ ?_)
   refine go_seq_k fun K146 hK146 => ?_
   have hJ5 : ∀ (a : Act) (w : World), Slots a 125 [(12, .pointer none), (14, .pointer (some (⟨g145, 0, none⟩ : Addr)))] → St [] w0 w [mSrivetref06_Machine (some ⟨g145, 0, none⟩) x115, own 72 eSapi_Sym Aa98 cc99 t92.Syms, own 72 eSapi_Sym Aa72 cc73 t66.Syms, own 38 (eI .u32) Aa59 cc60 t56, own 72 eSapi_Sym Aa46 cc47 t40.Syms, own 38 (eI .u32) Aa33 cc34 t30, own 72 eSapi_Sym Aa20 cc21 t14.Syms, box g2 32 [.slice A0_1 a0.Words.length c0_1, .slice A0_2 a0.Sites.length c0_2, .slice A0_3 a0.Syms.length c0_3]] → rivetlaw12_LoadAll.j5 = some r → K146 a w := by
    intro a w hs hw H
    unfold rivetlaw12_LoadAll.j5 at H
    refine hK146 _ _ ?_
    refine go_seq_k fun K172 hK172 => ?_
    refine go_seq_k fun K173 hK173 => ?_
    have hJ6 : ∀ (a : Act) (w : World), Slots a 125 [(12, .pointer none), (14, .pointer (some (⟨g145, 0, none⟩ : Addr))), (86, .bool true)] → St [] w0 w [mSrivetref06_Machine (some ⟨g145, 0, none⟩) x115, own 72 eSapi_Sym Aa98 cc99 t92.Syms, own 72 eSapi_Sym Aa72 cc73 t66.Syms, own 38 (eI .u32) Aa59 cc60 t56, own 72 eSapi_Sym Aa46 cc47 t40.Syms, own 38 (eI .u32) Aa33 cc34 t30, own 72 eSapi_Sym Aa20 cc21 t14.Syms, box g2 32 [.slice A0_1 a0.Words.length c0_1, .slice A0_2 a0.Sites.length c0_2, .slice A0_3 a0.Syms.length c0_3]] → rivetlaw12_LoadAll.j6 = some r → K173 a w := by
     intro a w hs hw H
     unfold rivetlaw12_LoadAll.j6 at H
     refine hK173 _ _ ?_
     refine go_cond hs true (fun hc => ?_) fun hc => ?_
     ·skip
      refine go_sp [12, 14, 86] [(6, .bool true)] hs ?_; clear hs; intro a hs
      refine wp_ret ?_
      refine th_ret ?_
      obtain rfl := Option.some.inj H
      refine ret1 (t := 6) (v := .bool true) hs (by kernel_rfl) (by kernel_rfl) ?_
      exact ⟨rfl, hw.only 0⟩
     ·cases hc
    refine go_plain [] [(86, .bool true)] hs ?_; clear hs; intro a hs
    replace hw := hw.up 7
    replace hw := hw.up 7
    replace hw := hw.up 7
    replace hw := hw.up 7
    replace hw := hw.up 7
    replace hw := hw.up 7
    replace hw := hw.up 7
    replace hw := hw.up 7
    exact hJ6 _ _ hs.kx hw H
   refine go_seq_k fun K147 hK147 => ?_
   have hJ4 : ∀ (v168 : Bool) (a : Act) (w : World), Slots a 125 [(12, .pointer none), (14, .pointer (some (⟨g145, 0, none⟩ : Addr))), (80, .bool v168)] → St [] w0 w [mSrivetref06_Machine (some ⟨g145, 0, none⟩) x115, own 72 eSapi_Sym Aa98 cc99 t92.Syms, own 72 eSapi_Sym Aa72 cc73 t66.Syms, own 38 (eI .u32) Aa59 cc60 t56, own 72 eSapi_Sym Aa46 cc47 t40.Syms, own 38 (eI .u32) Aa33 cc34 t30, own 72 eSapi_Sym Aa20 cc21 t14.Syms, box g2 32 [.slice A0_1 a0.Words.length c0_1, .slice A0_2 a0.Sites.length c0_2, .slice A0_3 a0.Syms.length c0_3]] → rivetlaw12_LoadAll.j4 v168 = some r → K147 a w := by
    intro v168 a w hs hw H
    unfold rivetlaw12_LoadAll.j4 at H
    refine hK147 _ _ ?_
    refine go_cond hs v168 (fun hc => ?_) fun hc => ?_
    ·replace H := ite_t H hc
     have hb169 := hc
     rw [hb169] at hs
     refine go_sp [12, 14, 80] [(6, .bool false)] hs ?_; clear hs; intro a hs
     refine wp_ret ?_
     refine th_ret ?_
     obtain rfl := Option.some.inj H
     refine ret1 (t := 6) (v := .bool false) hs (by kernel_rfl) (by kernel_rfl) ?_
     exact ⟨rfl, hw.only 0⟩
    ·replace H := ite_f H (ff hc)
     have hb171 := hc
     rw [hb171] at hs
     refine wp_skip ?_
     replace hw := hw.up 7
     replace hw := hw.up 7
     replace hw := hw.up 7
     replace hw := hw.up 7
     replace hw := hw.up 7
     replace hw := hw.up 7
     replace hw := hw.up 7
     replace hw := hw.up 7
     exact hJ5 _ _ hs.kx hw H
   refine go_region ?_
   refine go_pvs 3 [7] [(49, .bool (!t8))] hs ?_; clear hs; intro a hs
   replace hs : Slots a 125 [(1, .int .i64 a1), (2, .int .i64 a2), (8, .slice Aa33 t30.length cc34), (9, .int .i64 t31), (10, .slice Aa59 t56.length cc60), (11, .int .i64 t57), (12, .pointer none), (13, .int .i64 t83), (14, .pointer (some (⟨g145, 0, none⟩ : Addr))), (15, .int .i64 t109), (49, .bool (!t8))] := hs.kx
   cases hb148 : (!t8)
   ·replace H := ite_t H (nf hb148)
    rw [hb148] at hs
    refine go_pvs 5 [8, 10] [(50, .slice Aa33 t30.length cc34), (51, .slice Aa59 t56.length cc60)] hs ?_; clear hs; intro a hs
    obtain ⟨t150, hx151, H⟩ := bind_some H
    refine go_call hs (by rfl) (rivetref05_Same.calls Aa33 cc34 t30 Aa59 cc60 t56 t150 _ (Rd.of_own (hw.up 5)) (Rd.of_own (hw.up 3)) hx151) ?_
    rintro e wd152 ⟨rfl, hw153⟩
    refine ⟨_, rfl, ?_⟩
    replace hw := hw.call hw153
    clear hs; intro a hs; replace hs := hs.rms [50, 51]
    refine go_pvs 9 [49, 52] [(55, .bool (!t150))] hs ?_; clear hs; intro a hs
    cases hb154 : (!t150)
    ·replace H := ite_t H (nf hb154)
     rw [hb154] at hs
     refine go_pvs 14 [9, 11, 55] [(60, .bool (t31 != t57))] hs ?_; clear hs; intro a hs
     cases hb155 : (t31 != t57)
     ·replace H := ite_t H (bne_eq_false_iff_eq.1 hb155)
      rw [hb155] at hs
      refine go_pvs 19 [15, 60] [(65, .bool (t83 != t109))] hs ?_; clear hs; intro a hs
      cases hb156 : (t83 != t109)
      ·replace H := ite_t H (bne_eq_false_iff_eq.1 hb156)
       rw [hb156] at hs
       refine go_pvs 26 [13, 65] [(72, .bool (true != (t83 != 0)))] hs ?_; clear hs; intro a hs
       cases hb157 : (true != (t83 != 0))
       ·replace H := ite_f H (ff hb157)
        rw [hb157] at hs
        refine go_pvs 28 [] [(73, .int .i64 a1), (74, .int .i64 a2)] hs ?_; clear hs; intro a hs
        obtain ⟨t159, hx160, H⟩ := bind_some H
        refine go_call hs (by rfl) (load_Regs.calls a1 a2 t159 _ hx160) ?_
        rintro e wd161 ⟨rfl, hw162⟩
        refine ⟨_, rfl, ?_⟩
        replace hw := hw.call hw162
        clear hs; intro a hs; replace hs := hs.rms [73, 74]
        refine go_pvs 31 [1, 2] [(76, .int .i64 a1), (77, .int .i64 a2)] hs ?_; clear hs; intro a hs
        obtain ⟨t164, hx165, H⟩ := bind_some H
        refine go_call hs (by rfl) (rivetref12_Regs.calls a1 a2 t164 _ hx165) ?_
        rintro e wd166 ⟨rfl, hw167⟩
        refine ⟨_, rfl, ?_⟩
        replace hw := hw.call hw167
        clear hs; intro a hs; replace hs := hs.rms [76, 77]
        refine go_run hs (by rfl) (x_neq (xs := (eSapi_Regs.enc t159).toArray) (ys := (eSapi_Regs.enc t164).toArray) (r := ((decide (t159.R = t164.R)) && ((t159.H == t164.H) && ((t159.N == t164.N) && ((t159.Z == t164.Z) && ((t159.C == t164.C) && ((t159.V == t164.V) && true))))))) (by kernel_rfl) (by kernel_rfl) (by kernel_rfl) (eq_struct Tryd.underlying50 (by kernel_rfl) (eq_cons (a := .agg (eA48.enc t159.R).toArray) (b := .agg (eA48.enc t164.R).toArray) (r := (decide (t159.R = t164.R))) (s := ((t159.H == t164.H) && ((t159.N == t164.N) && ((t159.Z == t164.Z) && ((t159.C == t164.C) && ((t159.V == t164.V) && true)))))) (by kernel_rfl) (part_pv (by kernel_rfl)) (part_pv (by kernel_rfl)) (eq_vec (e := 38) (k' := .u32) (k := .u32) t159.R t164.R (by kernel_rfl) (by kernel_rfl) (by kernel_rfl) (by kernel_rfl) (by kernel_rfl)) (eq_cons (a := .int .u32 t159.H) (b := .int .u32 t164.H) (r := (t159.H == t164.H)) (s := ((t159.N == t164.N) && ((t159.Z == t164.Z) && ((t159.C == t164.C) && ((t159.V == t164.V) && true))))) (by kernel_rfl) (part_pv (by kernel_rfl)) (part_pv (by kernel_rfl)) (eq_pv (by kernel_rfl)) (eq_cons (a := .bool t159.N) (b := .bool t164.N) (r := (t159.N == t164.N)) (s := ((t159.Z == t164.Z) && ((t159.C == t164.C) && ((t159.V == t164.V) && true)))) (by kernel_rfl) (part_pv (by kernel_rfl)) (part_pv (by kernel_rfl)) (eq_pv (by kernel_rfl)) (eq_cons (a := .bool t159.Z) (b := .bool t164.Z) (r := (t159.Z == t164.Z)) (s := ((t159.C == t164.C) && ((t159.V == t164.V) && true))) (by kernel_rfl) (part_pv (by kernel_rfl)) (part_pv (by kernel_rfl)) (eq_pv (by kernel_rfl)) (eq_cons (a := .bool t159.C) (b := .bool t164.C) (r := (t159.C == t164.C)) (s := ((t159.V == t164.V) && true)) (by kernel_rfl) (part_pv (by kernel_rfl)) (part_pv (by kernel_rfl)) (eq_pv (by kernel_rfl)) (eq_cons (a := .bool t159.V) (b := .bool t164.V) (r := (t159.V == t164.V)) (s := true) (by kernel_rfl) (part_pv (by kernel_rfl)) (part_pv (by kernel_rfl)) (eq_pv (by kernel_rfl)) eq_nil)))))))) [75, 78] ?_; clear hs; intro a hs
        refine go_pvs 34 [72, 79] [(80, .bool (!((decide (t159.R = t164.R)) && ((t159.H == t164.H) && ((t159.N == t164.N) && ((t159.Z == t164.Z) && ((t159.C == t164.C) && ((t159.V == t164.V) && true))))))))] hs ?_; clear hs; intro a hs
        refine go_end ?_
        replace hw := hw.up 7
        replace hw := hw.up 7
        replace hw := hw.up 7
        replace hw := hw.up 7
        replace hw := hw.up 7
        replace hw := hw.up 7
        replace hw := hw.up 7
        replace hw := hw.up 7
        exact hJ4 (!((decide (t159.R = t164.R)) && ((t159.H == t164.H) && ((t159.N == t164.N) && ((t159.Z == t164.Z) && ((t159.C == t164.C) && ((t159.V == t164.V) && true))))))) _ _ hs.kx hw H
       ·replace H := ite_t H hb157
        rw [hb157] at hs
        refine go_pvs 34 [1, 2, 72] [(80, .bool true)] hs ?_; clear hs; intro a hs
        refine go_end ?_
        replace hw := hw.up 7
        replace hw := hw.up 7
        replace hw := hw.up 7
        replace hw := hw.up 7
        replace hw := hw.up 7
        replace hw := hw.up 7
        replace hw := hw.up 7
        replace hw := hw.up 7
        exact hJ4 true _ _ hs.kx hw H
      ·replace H := ite_f H (bne_iff_ne.1 hb156)
       rw [hb156] at hs
       refine go_pvs 34 [1, 2, 13, 65] [(80, .bool true)] hs ?_; clear hs; intro a hs
       refine go_end ?_
       replace hw := hw.up 7
       replace hw := hw.up 7
       replace hw := hw.up 7
       replace hw := hw.up 7
       replace hw := hw.up 7
       replace hw := hw.up 7
       replace hw := hw.up 7
       replace hw := hw.up 7
       exact hJ4 true _ _ hs.kx hw H
     ·replace H := ite_f H (bne_iff_ne.1 hb155)
      rw [hb155] at hs
      refine go_pvs 34 [1, 2, 13, 15, 60] [(80, .bool true)] hs ?_; clear hs; intro a hs
      refine go_end ?_
      replace hw := hw.up 7
      replace hw := hw.up 7
      replace hw := hw.up 7
      replace hw := hw.up 7
      replace hw := hw.up 7
      replace hw := hw.up 7
      replace hw := hw.up 7
      replace hw := hw.up 7
      exact hJ4 true _ _ hs.kx hw H
    ·replace H := ite_f H (ff (nt hb154))
     rw [hb154] at hs
     refine go_pvs 34 [1, 2, 9, 11, 13, 15, 55] [(80, .bool true)] hs ?_; clear hs; intro a hs
     refine go_end ?_
     replace hw := hw.up 7
     replace hw := hw.up 7
     replace hw := hw.up 7
     replace hw := hw.up 7
     replace hw := hw.up 7
     replace hw := hw.up 7
     replace hw := hw.up 7
     replace hw := hw.up 7
     exact hJ4 true _ _ hs.kx hw H
   ·replace H := ite_f H (ff (nt hb148))
    rw [hb148] at hs
    refine go_pvs 34 [1, 2, 8, 9, 10, 11, 13, 15, 49] [(80, .bool true)] hs ?_; clear hs; intro a hs
    refine go_end ?_
    replace hw := hw.up 7
    replace hw := hw.up 7
    replace hw := hw.up 7
    replace hw := hw.up 7
    replace hw := hw.up 7
    replace hw := hw.up 7
    replace hw := hw.up 7
    replace hw := hw.up 7
    exact hJ4 true _ _ hs.kx hw H
 ·replace hw : St [] w0 _ [mSmachine_Machine Aa85 x89, own 72 eSapi_Sym Aa72 cc73 t66.Syms, own 38 (eI .u32) Aa59 cc60 t56, own 72 eSapi_Sym Aa46 cc47 t40.Syms, own 38 (eI .u32) Aa33 cc34 t30, own 72 eSapi_Sym Aa20 cc21 t14.Syms, box g2 32 [.slice A0_1 a0.Words.length c0_1, .slice A0_2 a0.Sites.length c0_2, .slice A0_3 a0.Syms.length c0_3]] := hw
  obtain ⟨g175, hAg, hwg⟩ := mSmachine_Machine.addr hw
  clear hw; subst hAg; have hw := hwg; clear hwg
  replace hw : St [] w0 _ [mSmachine_Machine (some ⟨g175, 0, none⟩) x89, own 72 eSapi_Sym Aa72 cc73 t66.Syms, own 38 (eI .u32) Aa59 cc60 t56, own 72 eSapi_Sym Aa46 cc47 t40.Syms, own 38 (eI .u32) Aa33 cc34 t30, own 72 eSapi_Sym Aa20 cc21 t14.Syms, box g2 32 [.slice A0_1 a0.Words.length c0_1, .slice A0_2 a0.Sites.length c0_2, .slice A0_3 a0.Syms.length c0_3]] := hw
  refine go_pvs 10 [36] [(12, .pointer (some (⟨g175, 0, none⟩ : Addr))), (13, .int .i64 t83)] hs ?_; clear hs; intro a hs
  refine go_end (hK64 _ _ ?_)
  refine go_sk fun K176 hK176 => ?_
  refine go_run hs (by rfl) (x_blds (g := g2) (o := 0) (p := (⟨g2, 0, none⟩ : Addr)) (vs := [.slice A0_1 a0.Words.length c0_1, .slice A0_2 a0.Sites.length c0_2, .slice A0_3 a0.Syms.length c0_3]) (hw.up 6)) [3] ?_; clear hs; intro a hs
  obtain ⟨t178, hx179, H⟩ := bind_some H
  refine go_call hs (by rfl) (rivetlaw12_few.calls a0 A0_1 c0_1 A0_2 c0_2 A0_3 c0_3 t178 _ (hr0_1.old hw) (hr0_2.old hw) (hr0_3.old hw) hx179) ?_
  rintro e wd186 ⟨Aa180, cc181, Aa182, cc183, Aa184, cc185, rfl, hc188, hc189, hw187⟩
  refine ⟨_, rfl, ?_⟩
  replace hw := hw.call hw187
  clear hs; intro a hs; replace hs := hs.rms [40]
  refine go_pvs 4 [] [(42, .int .i64 a1), (43, .int .i64 a2)] hs ?_; clear hs; intro a hs
  obtain ⟨⟨t194, t195⟩, hx196, H⟩ := bind_some H
  refine go_call hs (by rfl) (rivetref12_Machine.calls t178 Aa180 cc181 Aa182 cc183 Aa184 cc185 a1 a2 none 0 ([] : List Int) (t194, t195) _ (hc188 _ (hr0_1.old hw)) (hc189 _ (hr0_2.old hw)) (Rd.of_own (hw.up 0)) (Rd.nil _ _) hx196) ?_
  rintro e wd198 ⟨Aa197, rfl, hw199⟩
  refine ⟨_, rfl, ?_⟩
  replace hw := hw.call hw199
  clear hs; intro a hs; replace hs := hs.rms [41, 42, 43]
  rcases t194 with _ | x201
  ·obtain ⟨hAg, hwg⟩ := St.oM_none hw
   clear hw; subst hAg; have hw := hwg; clear hwg
   refine go_pvs 10 [44] [(14, .pointer none), (15, .int .i64 t195)] hs ?_; clear hs; intro a hs
   refine go_end (hK176 _ _ ?_)
   refine go_seq_k fun K202 hK202 => ?_
   have hJ8 : ∀ (a : Act) (w : World), Slots a 125 [(12, .pointer (some (⟨g175, 0, none⟩ : Addr))), (14, .pointer none)] → St [] w0 w [own 72 eSapi_Sym Aa184 cc185 t178.Syms, mSmachine_Machine (some ⟨g175, 0, none⟩) x89, own 72 eSapi_Sym Aa72 cc73 t66.Syms, own 38 (eI .u32) Aa59 cc60 t56, own 72 eSapi_Sym Aa46 cc47 t40.Syms, own 38 (eI .u32) Aa33 cc34 t30, own 72 eSapi_Sym Aa20 cc21 t14.Syms, box g2 32 [.slice A0_1 a0.Words.length c0_1, .slice A0_2 a0.Sites.length c0_2, .slice A0_3 a0.Syms.length c0_3]] → rivetlaw12_LoadAll.j8 = some r → K202 a w := by
    intro a w hs hw H
    unfold rivetlaw12_LoadAll.j8 at H
    refine hK202 _ _ ?_
    refine go_seq_k fun K228 hK228 => ?_
    refine go_seq_k fun K229 hK229 => ?_
    have hJ9 : ∀ (a : Act) (w : World), Slots a 125 [(12, .pointer (some (⟨g175, 0, none⟩ : Addr))), (14, .pointer none), (86, .bool true)] → St [] w0 w [own 72 eSapi_Sym Aa184 cc185 t178.Syms, mSmachine_Machine (some ⟨g175, 0, none⟩) x89, own 72 eSapi_Sym Aa72 cc73 t66.Syms, own 38 (eI .u32) Aa59 cc60 t56, own 72 eSapi_Sym Aa46 cc47 t40.Syms, own 38 (eI .u32) Aa33 cc34 t30, own 72 eSapi_Sym Aa20 cc21 t14.Syms, box g2 32 [.slice A0_1 a0.Words.length c0_1, .slice A0_2 a0.Sites.length c0_2, .slice A0_3 a0.Syms.length c0_3]] → rivetlaw12_LoadAll.j9 = some r → K229 a w := by
     intro a w hs hw H
     unfold rivetlaw12_LoadAll.j9 at H
     refine hK229 _ _ ?_
     refine go_cond hs true (fun hc => ?_) fun hc => ?_
     ·skip
      refine go_sp [12, 14, 86] [(6, .bool true)] hs ?_; clear hs; intro a hs
      refine wp_ret ?_
      refine th_ret ?_
      obtain rfl := Option.some.inj H
      refine ret1 (t := 6) (v := .bool true) hs (by kernel_rfl) (by kernel_rfl) ?_
      exact ⟨rfl, hw.only 0⟩
     ·cases hc
    refine go_plain [] [(86, .bool true)] hs ?_; clear hs; intro a hs
    replace hw := hw.up 7
    replace hw := hw.up 7
    replace hw := hw.up 7
    replace hw := hw.up 7
    replace hw := hw.up 7
    replace hw := hw.up 7
    replace hw := hw.up 7
    replace hw := hw.up 7
    exact hJ9 _ _ hs.kx hw H
   refine go_seq_k fun K203 hK203 => ?_
   have hJ7 : ∀ (v224 : Bool) (a : Act) (w : World), Slots a 125 [(12, .pointer (some (⟨g175, 0, none⟩ : Addr))), (14, .pointer none), (80, .bool v224)] → St [] w0 w [own 72 eSapi_Sym Aa184 cc185 t178.Syms, mSmachine_Machine (some ⟨g175, 0, none⟩) x89, own 72 eSapi_Sym Aa72 cc73 t66.Syms, own 38 (eI .u32) Aa59 cc60 t56, own 72 eSapi_Sym Aa46 cc47 t40.Syms, own 38 (eI .u32) Aa33 cc34 t30, own 72 eSapi_Sym Aa20 cc21 t14.Syms, box g2 32 [.slice A0_1 a0.Words.length c0_1, .slice A0_2 a0.Sites.length c0_2, .slice A0_3 a0.Syms.length c0_3]] → rivetlaw12_LoadAll.j7 v224 = some r → K203 a w := by
    intro v224 a w hs hw H
    unfold rivetlaw12_LoadAll.j7 at H
    refine hK203 _ _ ?_
    refine go_cond hs v224 (fun hc => ?_) fun hc => ?_
    ·replace H := ite_t H hc
     have hb225 := hc
     rw [hb225] at hs
     refine go_sp [12, 14, 80] [(6, .bool false)] hs ?_; clear hs; intro a hs
     refine wp_ret ?_
     refine th_ret ?_
     obtain rfl := Option.some.inj H
     refine ret1 (t := 6) (v := .bool false) hs (by kernel_rfl) (by kernel_rfl) ?_
     exact ⟨rfl, hw.only 0⟩
    ·replace H := ite_f H (ff hc)
     have hb227 := hc
     rw [hb227] at hs
     refine wp_skip ?_
     replace hw := hw.up 7
     replace hw := hw.up 7
     replace hw := hw.up 7
     replace hw := hw.up 7
     replace hw := hw.up 7
     replace hw := hw.up 7
     replace hw := hw.up 7
     replace hw := hw.up 7
     exact hJ8 _ _ hs.kx hw H
   refine go_region ?_
   refine go_pvs 3 [7] [(49, .bool (!t8))] hs ?_; clear hs; intro a hs
   replace hs : Slots a 125 [(1, .int .i64 a1), (2, .int .i64 a2), (8, .slice Aa33 t30.length cc34), (9, .int .i64 t31), (10, .slice Aa59 t56.length cc60), (11, .int .i64 t57), (12, .pointer (some (⟨g175, 0, none⟩ : Addr))), (13, .int .i64 t83), (14, .pointer none), (15, .int .i64 t195), (49, .bool (!t8))] := hs.kx
   cases hb204 : (!t8)
   ·replace H := ite_t H (nf hb204)
    rw [hb204] at hs
    refine go_pvs 5 [8, 10] [(50, .slice Aa33 t30.length cc34), (51, .slice Aa59 t56.length cc60)] hs ?_; clear hs; intro a hs
    obtain ⟨t206, hx207, H⟩ := bind_some H
    refine go_call hs (by rfl) (rivetref05_Same.calls Aa33 cc34 t30 Aa59 cc60 t56 t206 _ (Rd.of_own (hw.up 5)) (Rd.of_own (hw.up 3)) hx207) ?_
    rintro e wd208 ⟨rfl, hw209⟩
    refine ⟨_, rfl, ?_⟩
    replace hw := hw.call hw209
    clear hs; intro a hs; replace hs := hs.rms [50, 51]
    refine go_pvs 9 [49, 52] [(55, .bool (!t206))] hs ?_; clear hs; intro a hs
    cases hb210 : (!t206)
    ·replace H := ite_t H (nf hb210)
     rw [hb210] at hs
     refine go_pvs 14 [9, 11, 55] [(60, .bool (t31 != t57))] hs ?_; clear hs; intro a hs
     cases hb211 : (t31 != t57)
     ·replace H := ite_t H (bne_eq_false_iff_eq.1 hb211)
      rw [hb211] at hs
      refine go_pvs 19 [15, 60] [(65, .bool (t83 != t195))] hs ?_; clear hs; intro a hs
      cases hb212 : (t83 != t195)
      ·replace H := ite_t H (bne_eq_false_iff_eq.1 hb212)
       rw [hb212] at hs
       refine go_pvs 26 [13, 65] [(72, .bool (false != (t83 != 0)))] hs ?_; clear hs; intro a hs
       cases hb213 : (false != (t83 != 0))
       ·replace H := ite_f H (ff hb213)
        rw [hb213] at hs
        refine go_pvs 28 [] [(73, .int .i64 a1), (74, .int .i64 a2)] hs ?_; clear hs; intro a hs
        obtain ⟨t215, hx216, H⟩ := bind_some H
        refine go_call hs (by rfl) (load_Regs.calls a1 a2 t215 _ hx216) ?_
        rintro e wd217 ⟨rfl, hw218⟩
        refine ⟨_, rfl, ?_⟩
        replace hw := hw.call hw218
        clear hs; intro a hs; replace hs := hs.rms [73, 74]
        refine go_pvs 31 [1, 2] [(76, .int .i64 a1), (77, .int .i64 a2)] hs ?_; clear hs; intro a hs
        obtain ⟨t220, hx221, H⟩ := bind_some H
        refine go_call hs (by rfl) (rivetref12_Regs.calls a1 a2 t220 _ hx221) ?_
        rintro e wd222 ⟨rfl, hw223⟩
        refine ⟨_, rfl, ?_⟩
        replace hw := hw.call hw223
        clear hs; intro a hs; replace hs := hs.rms [76, 77]
        refine go_run hs (by rfl) (x_neq (xs := (eSapi_Regs.enc t215).toArray) (ys := (eSapi_Regs.enc t220).toArray) (r := ((decide (t215.R = t220.R)) && ((t215.H == t220.H) && ((t215.N == t220.N) && ((t215.Z == t220.Z) && ((t215.C == t220.C) && ((t215.V == t220.V) && true))))))) (by kernel_rfl) (by kernel_rfl) (by kernel_rfl) (eq_struct Tryd.underlying50 (by kernel_rfl) (eq_cons (a := .agg (eA48.enc t215.R).toArray) (b := .agg (eA48.enc t220.R).toArray) (r := (decide (t215.R = t220.R))) (s := ((t215.H == t220.H) && ((t215.N == t220.N) && ((t215.Z == t220.Z) && ((t215.C == t220.C) && ((t215.V == t220.V) && true)))))) (by kernel_rfl) (part_pv (by kernel_rfl)) (part_pv (by kernel_rfl)) (eq_vec (e := 38) (k' := .u32) (k := .u32) t215.R t220.R (by kernel_rfl) (by kernel_rfl) (by kernel_rfl) (by kernel_rfl) (by kernel_rfl)) (eq_cons (a := .int .u32 t215.H) (b := .int .u32 t220.H) (r := (t215.H == t220.H)) (s := ((t215.N == t220.N) && ((t215.Z == t220.Z) && ((t215.C == t220.C) && ((t215.V == t220.V) && true))))) (by kernel_rfl) (part_pv (by kernel_rfl)) (part_pv (by kernel_rfl)) (eq_pv (by kernel_rfl)) (eq_cons (a := .bool t215.N) (b := .bool t220.N) (r := (t215.N == t220.N)) (s := ((t215.Z == t220.Z) && ((t215.C == t220.C) && ((t215.V == t220.V) && true)))) (by kernel_rfl) (part_pv (by kernel_rfl)) (part_pv (by kernel_rfl)) (eq_pv (by kernel_rfl)) (eq_cons (a := .bool t215.Z) (b := .bool t220.Z) (r := (t215.Z == t220.Z)) (s := ((t215.C == t220.C) && ((t215.V == t220.V) && true))) (by kernel_rfl) (part_pv (by kernel_rfl)) (part_pv (by kernel_rfl)) (eq_pv (by kernel_rfl)) (eq_cons (a := .bool t215.C) (b := .bool t220.C) (r := (t215.C == t220.C)) (s := ((t215.V == t220.V) && true)) (by kernel_rfl) (part_pv (by kernel_rfl)) (part_pv (by kernel_rfl)) (eq_pv (by kernel_rfl)) (eq_cons (a := .bool t215.V) (b := .bool t220.V) (r := (t215.V == t220.V)) (s := true) (by kernel_rfl) (part_pv (by kernel_rfl)) (part_pv (by kernel_rfl)) (eq_pv (by kernel_rfl)) eq_nil)))))))) [75, 78] ?_; clear hs; intro a hs
        refine go_pvs 34 [72, 79] [(80, .bool (!((decide (t215.R = t220.R)) && ((t215.H == t220.H) && ((t215.N == t220.N) && ((t215.Z == t220.Z) && ((t215.C == t220.C) && ((t215.V == t220.V) && true))))))))] hs ?_; clear hs; intro a hs
        refine go_end ?_
        replace hw := hw.up 7
        replace hw := hw.up 7
        replace hw := hw.up 7
        replace hw := hw.up 7
        replace hw := hw.up 7
        replace hw := hw.up 7
        replace hw := hw.up 7
        replace hw := hw.up 7
        exact hJ7 (!((decide (t215.R = t220.R)) && ((t215.H == t220.H) && ((t215.N == t220.N) && ((t215.Z == t220.Z) && ((t215.C == t220.C) && ((t215.V == t220.V) && true))))))) _ _ hs.kx hw H
       ·replace H := ite_t H hb213
        rw [hb213] at hs
        refine go_pvs 34 [1, 2, 72] [(80, .bool true)] hs ?_; clear hs; intro a hs
        refine go_end ?_
        replace hw := hw.up 7
        replace hw := hw.up 7
        replace hw := hw.up 7
        replace hw := hw.up 7
        replace hw := hw.up 7
        replace hw := hw.up 7
        replace hw := hw.up 7
        replace hw := hw.up 7
        exact hJ7 true _ _ hs.kx hw H
      ·replace H := ite_f H (bne_iff_ne.1 hb212)
       rw [hb212] at hs
       refine go_pvs 34 [1, 2, 13, 65] [(80, .bool true)] hs ?_; clear hs; intro a hs
       refine go_end ?_
       replace hw := hw.up 7
       replace hw := hw.up 7
       replace hw := hw.up 7
       replace hw := hw.up 7
       replace hw := hw.up 7
       replace hw := hw.up 7
       replace hw := hw.up 7
       replace hw := hw.up 7
       exact hJ7 true _ _ hs.kx hw H
     ·replace H := ite_f H (bne_iff_ne.1 hb211)
      rw [hb211] at hs
      refine go_pvs 34 [1, 2, 13, 15, 60] [(80, .bool true)] hs ?_; clear hs; intro a hs
      refine go_end ?_
      replace hw := hw.up 7
      replace hw := hw.up 7
      replace hw := hw.up 7
      replace hw := hw.up 7
      replace hw := hw.up 7
      replace hw := hw.up 7
      replace hw := hw.up 7
      replace hw := hw.up 7
      exact hJ7 true _ _ hs.kx hw H
    ·replace H := ite_f H (ff (nt hb210))
     rw [hb210] at hs
     refine go_pvs 34 [1, 2, 9, 11, 13, 15, 55] [(80, .bool true)] hs ?_; clear hs; intro a hs
     refine go_end ?_
     replace hw := hw.up 7
     replace hw := hw.up 7
     replace hw := hw.up 7
     replace hw := hw.up 7
     replace hw := hw.up 7
     replace hw := hw.up 7
     replace hw := hw.up 7
     replace hw := hw.up 7
     exact hJ7 true _ _ hs.kx hw H
   ·replace H := ite_f H (ff (nt hb204))
    rw [hb204] at hs
    refine go_pvs 34 [1, 2, 8, 9, 10, 11, 13, 15, 49] [(80, .bool true)] hs ?_; clear hs; intro a hs
    refine go_end ?_
    replace hw := hw.up 7
    replace hw := hw.up 7
    replace hw := hw.up 7
    replace hw := hw.up 7
    replace hw := hw.up 7
    replace hw := hw.up 7
    replace hw := hw.up 7
    replace hw := hw.up 7
    exact hJ7 true _ _ hs.kx hw H
  ·replace hw : St [] w0 _ [mSrivetref06_Machine Aa197 x201, own 72 eSapi_Sym Aa184 cc185 t178.Syms, mSmachine_Machine (some ⟨g175, 0, none⟩) x89, own 72 eSapi_Sym Aa72 cc73 t66.Syms, own 38 (eI .u32) Aa59 cc60 t56, own 72 eSapi_Sym Aa46 cc47 t40.Syms, own 38 (eI .u32) Aa33 cc34 t30, own 72 eSapi_Sym Aa20 cc21 t14.Syms, box g2 32 [.slice A0_1 a0.Words.length c0_1, .slice A0_2 a0.Sites.length c0_2, .slice A0_3 a0.Syms.length c0_3]] := hw
   obtain ⟨g231, hAg, hwg⟩ := mSrivetref06_Machine.addr hw
   clear hw; subst hAg; have hw := hwg; clear hwg
   replace hw : St [] w0 _ [mSrivetref06_Machine (some ⟨g231, 0, none⟩) x201, own 72 eSapi_Sym Aa184 cc185 t178.Syms, mSmachine_Machine (some ⟨g175, 0, none⟩) x89, own 72 eSapi_Sym Aa72 cc73 t66.Syms, own 38 (eI .u32) Aa59 cc60 t56, own 72 eSapi_Sym Aa46 cc47 t40.Syms, own 38 (eI .u32) Aa33 cc34 t30, own 72 eSapi_Sym Aa20 cc21 t14.Syms, box g2 32 [.slice A0_1 a0.Words.length c0_1, .slice A0_2 a0.Sites.length c0_2, .slice A0_3 a0.Syms.length c0_3]] := hw
   refine go_pvs 10 [44] [(14, .pointer (some (⟨g231, 0, none⟩ : Addr))), (15, .int .i64 t195)] hs ?_; clear hs; intro a hs
   refine go_end (hK176 _ _ ?_)
   refine go_seq_k fun K232 hK232 => ?_
   have hJ11 : ∀ (a : Act) (w : World), Slots a 125 [(12, .pointer (some (⟨g175, 0, none⟩ : Addr))), (14, .pointer (some (⟨g231, 0, none⟩ : Addr)))] → St [] w0 w [mSrivetref06_Machine (some ⟨g231, 0, none⟩) x201, own 72 eSapi_Sym Aa184 cc185 t178.Syms, mSmachine_Machine (some ⟨g175, 0, none⟩) x89, own 72 eSapi_Sym Aa72 cc73 t66.Syms, own 38 (eI .u32) Aa59 cc60 t56, own 72 eSapi_Sym Aa46 cc47 t40.Syms, own 38 (eI .u32) Aa33 cc34 t30, own 72 eSapi_Sym Aa20 cc21 t14.Syms, box g2 32 [.slice A0_1 a0.Words.length c0_1, .slice A0_2 a0.Sites.length c0_2, .slice A0_3 a0.Syms.length c0_3]] → rivetlaw12_LoadAll.j11 x89 x201 = some r → K232 a w := by
    intro a w hs hw H
    unfold rivetlaw12_LoadAll.j11 at H
    refine hK232 _ _ ?_
    refine go_seq_k fun K258 hK258 => ?_
    have hJ13 : ∀ (a : Act) (w : World), Slots a 125 [(12, .pointer (some (⟨g175, 0, none⟩ : Addr))), (14, .pointer (some (⟨g231, 0, none⟩ : Addr)))] → St [] w0 w [mSrivetref06_Machine (some ⟨g231, 0, none⟩) x201, own 72 eSapi_Sym Aa184 cc185 t178.Syms, mSmachine_Machine (some ⟨g175, 0, none⟩) x89, own 72 eSapi_Sym Aa72 cc73 t66.Syms, own 38 (eI .u32) Aa59 cc60 t56, own 72 eSapi_Sym Aa46 cc47 t40.Syms, own 38 (eI .u32) Aa33 cc34 t30, own 72 eSapi_Sym Aa20 cc21 t14.Syms, box g2 32 [.slice A0_1 a0.Words.length c0_1, .slice A0_2 a0.Sites.length c0_2, .slice A0_3 a0.Syms.length c0_3]] → rivetlaw12_LoadAll.j13 x89 x201 = some r → K258 a w := by
     intro a w hs hw H
     unfold rivetlaw12_LoadAll.j13 at H
     refine hK258 _ _ ?_
     refine go_seq_k fun K260 hK260 => ?_
     have hJ14 : ∀ (v322 : Bool) (a : Act) (w : World), Slots a 125 [(6, .bool v322)] → St [] w0 w [mSrivetref06_Machine (some ⟨g231, 0, none⟩) x201, own 72 eSapi_Sym Aa184 cc185 t178.Syms, mSmachine_Machine (some ⟨g175, 0, none⟩) x89, own 72 eSapi_Sym Aa72 cc73 t66.Syms, own 38 (eI .u32) Aa59 cc60 t56, own 72 eSapi_Sym Aa46 cc47 t40.Syms, own 38 (eI .u32) Aa33 cc34 t30, own 72 eSapi_Sym Aa20 cc21 t14.Syms, box g2 32 [.slice A0_1 a0.Words.length c0_1, .slice A0_2 a0.Sites.length c0_2, .slice A0_3 a0.Syms.length c0_3]] → rivetlaw12_LoadAll.j14 v322 = some r → K260 a w := by
      intro v322 a w hs hw H
      unfold rivetlaw12_LoadAll.j14 at H
      refine hK260 _ _ ?_
      refine wp_ret ?_
      obtain rfl := Option.some.inj H
      refine ret1 (t := 6) (v := .bool v322) hs (by kernel_rfl) (by kernel_rfl) ?_
      exact ⟨rfl, hw.only 0⟩
     refine c_region [(true, [0, 1, 2, 3, 5, 6, 7, 8], 4), (true, [], 9), (true, [], 10), (true, [11, 12, 14, 15, 16, 17], 13), (true, [18, 19, 20, 21, 23, 24, 25, 26], 22), (true, [27, 28, 29, 30, 32, 33, 34, 35], 31)] [36, 37, 38] (by kernel_rfl) (by kernel_rfl) (fun c a d v w h => by cases d <;> exact h) ?_
     refine c_seg ?_
     refine c_pvs [0, 1, 2] [3, 5, 6, 7, 8] [] [(89, .pointer (some (⟨g175, 0, none⟩ : Addr)))] hs ?_; clear hs; intro a hs
     replace hw := hw.up 2
     obtain ⟨Aa261, Aa263, cc264, Aa266, cc267, hw⟩ := mSmachine_Machine.open1 hw
     replace hw : St [] w0 _ [box g175 55 ([.pointer Aa261] ++ eSapi_Regs.enc x89.s ++ [.int .u32 x89.pc, .int .i64 x89.status, .slice Aa263 x89.in'.length cc264, .slice Aa266 x89.out.length cc267]), oM mSmemory_Memory Aa261 x89.Memory, rdo (eI .u32) Aa263 cc264 x89.in', own 38 (eI .u32) Aa266 cc267 x89.out, mSrivetref06_Machine (some ⟨g231, 0, none⟩) x201, own 72 eSapi_Sym Aa184 cc185 t178.Syms, own 72 eSapi_Sym Aa72 cc73 t66.Syms, own 38 (eI .u32) Aa59 cc60 t56, own 72 eSapi_Sym Aa46 cc47 t40.Syms, own 38 (eI .u32) Aa33 cc34 t30, own 72 eSapi_Sym Aa20 cc21 t14.Syms, box g2 32 [.slice A0_1 a0.Words.length c0_1, .slice A0_2 a0.Sites.length c0_2, .slice A0_3 a0.Syms.length c0_3]] := hw
     replace hw := hw.up 1
     obtain ⟨y269, hy270, H⟩ := bind_some H
     replace hw := St.oM_some hw hy270
     obtain ⟨g271, hAg, hwg⟩ := St.one hw
     clear hw; subst hAg; have hw := hwg; clear hwg
     replace hw : St [] w0 _ [own 78 eSmemory_Memory (some (⟨g271, 0, none⟩ : Addr)) 1 [y269], box g175 55 ([.pointer (some (⟨g271, 0, none⟩ : Addr))] ++ eSapi_Regs.enc x89.s ++ [.int .u32 x89.pc, .int .i64 x89.status, .slice Aa263 x89.in'.length cc264, .slice Aa266 x89.out.length cc267]), rdo (eI .u32) Aa263 cc264 x89.in', own 38 (eI .u32) Aa266 cc267 x89.out, mSrivetref06_Machine (some ⟨g231, 0, none⟩) x201, own 72 eSapi_Sym Aa184 cc185 t178.Syms, own 72 eSapi_Sym Aa72 cc73 t66.Syms, own 38 (eI .u32) Aa59 cc60 t56, own 72 eSapi_Sym Aa46 cc47 t40.Syms, own 38 (eI .u32) Aa33 cc34 t30, own 72 eSapi_Sym Aa20 cc21 t14.Syms, box g2 32 [.slice A0_1 a0.Words.length c0_1, .slice A0_2 a0.Sites.length c0_2, .slice A0_3 a0.Syms.length c0_3]] := hw
     refine c_run hs (by rfl) (fun wx hbx => (x_bld (g := g175) (o := 0) (p := (⟨g175, 0, none⟩ : Addr)) (v := .pointer (some (⟨g271, 0, none⟩ : Addr))) ((hw.behind hbx).up 1))) [89] ?_; clear hs; intro a hs
     refine c_pvs [5, 6, 7] [8] [] [(94, .pointer (some (⟨g231, 0, none⟩ : Addr)))] hs ?_; clear hs; intro a hs
     replace hw := hw.up 4
     obtain ⟨Aa272, Aa274, cc275, Aa277, cc278, hw⟩ := mSrivetref06_Machine.open1 hw
     replace hw : St [] w0 _ [box g231 58 ([.pointer Aa272] ++ eSapi_Regs.enc x201.S ++ [.int .u32 x201.PC, .int .i64 x201.Status, .slice Aa274 x201.In.length cc275, .slice Aa277 x201.Out.length cc278]), oM mSrivetref05_Memory Aa272 x201.M, rdo (eI .u32) Aa274 cc275 x201.In, own 38 (eI .u32) Aa277 cc278 x201.Out, own 78 eSmemory_Memory (some (⟨g271, 0, none⟩ : Addr)) 1 [y269], box g175 55 ([.pointer (some (⟨g271, 0, none⟩ : Addr))] ++ eSapi_Regs.enc x89.s ++ [.int .u32 x89.pc, .int .i64 x89.status, .slice Aa263 x89.in'.length cc264, .slice Aa266 x89.out.length cc267]), rdo (eI .u32) Aa263 cc264 x89.in', own 38 (eI .u32) Aa266 cc267 x89.out, own 72 eSapi_Sym Aa184 cc185 t178.Syms, own 72 eSapi_Sym Aa72 cc73 t66.Syms, own 38 (eI .u32) Aa59 cc60 t56, own 72 eSapi_Sym Aa46 cc47 t40.Syms, own 38 (eI .u32) Aa33 cc34 t30, own 72 eSapi_Sym Aa20 cc21 t14.Syms, box g2 32 [.slice A0_1 a0.Words.length c0_1, .slice A0_2 a0.Sites.length c0_2, .slice A0_3 a0.Syms.length c0_3]] := hw
     replace hw := hw.up 1
     obtain ⟨y280, hy281, H⟩ := bind_some H
     replace hw := St.oM_some hw hy281
     obtain ⟨g282, hAg, hwg⟩ := mSrivetref05_Memory.addr hw
     clear hw; subst hAg; have hw := hwg; clear hwg
     replace hw : St [] w0 _ [mSrivetref05_Memory (some ⟨g282, 0, none⟩) y280, box g231 58 ([.pointer (some ⟨g282, 0, none⟩)] ++ eSapi_Regs.enc x201.S ++ [.int .u32 x201.PC, .int .i64 x201.Status, .slice Aa274 x201.In.length cc275, .slice Aa277 x201.Out.length cc278]), rdo (eI .u32) Aa274 cc275 x201.In, own 38 (eI .u32) Aa277 cc278 x201.Out, own 78 eSmemory_Memory (some (⟨g271, 0, none⟩ : Addr)) 1 [y269], box g175 55 ([.pointer (some (⟨g271, 0, none⟩ : Addr))] ++ eSapi_Regs.enc x89.s ++ [.int .u32 x89.pc, .int .i64 x89.status, .slice Aa263 x89.in'.length cc264, .slice Aa266 x89.out.length cc267]), rdo (eI .u32) Aa263 cc264 x89.in', own 38 (eI .u32) Aa266 cc267 x89.out, own 72 eSapi_Sym Aa184 cc185 t178.Syms, own 72 eSapi_Sym Aa72 cc73 t66.Syms, own 38 (eI .u32) Aa59 cc60 t56, own 72 eSapi_Sym Aa46 cc47 t40.Syms, own 38 (eI .u32) Aa33 cc34 t30, own 72 eSapi_Sym Aa20 cc21 t14.Syms, box g2 32 [.slice A0_1 a0.Words.length c0_1, .slice A0_2 a0.Sites.length c0_2, .slice A0_3 a0.Syms.length c0_3]] := hw
     replace hw : St [] w0 _ [mSrivetref05_Memory (some ⟨g282, 0, none⟩) y280, box g231 58 ([.pointer (some (⟨g282, 0, none⟩ : Addr))] ++ eSapi_Regs.enc x201.S ++ [.int .u32 x201.PC, .int .i64 x201.Status, .slice Aa274 x201.In.length cc275, .slice Aa277 x201.Out.length cc278]), rdo (eI .u32) Aa274 cc275 x201.In, own 38 (eI .u32) Aa277 cc278 x201.Out, own 78 eSmemory_Memory (some (⟨g271, 0, none⟩ : Addr)) 1 [y269], box g175 55 ([.pointer (some (⟨g271, 0, none⟩ : Addr))] ++ eSapi_Regs.enc x89.s ++ [.int .u32 x89.pc, .int .i64 x89.status, .slice Aa263 x89.in'.length cc264, .slice Aa266 x89.out.length cc267]), rdo (eI .u32) Aa263 cc264 x89.in', own 38 (eI .u32) Aa266 cc267 x89.out, own 72 eSapi_Sym Aa184 cc185 t178.Syms, own 72 eSapi_Sym Aa72 cc73 t66.Syms, own 38 (eI .u32) Aa59 cc60 t56, own 72 eSapi_Sym Aa46 cc47 t40.Syms, own 38 (eI .u32) Aa33 cc34 t30, own 72 eSapi_Sym Aa20 cc21 t14.Syms, box g2 32 [.slice A0_1 a0.Words.length c0_1, .slice A0_2 a0.Sites.length c0_2, .slice A0_3 a0.Syms.length c0_3]] := hw
     refine c_run hs (by rfl) (fun wx hbx => (x_bld (g := g231) (o := 0) (p := (⟨g231, 0, none⟩ : Addr)) (v := .pointer (some (⟨g282, 0, none⟩ : Addr))) ((hw.behind hbx).up 1))) [94] ?_; clear hs; intro a hs
     refine c_end ?_
     intro wq hbq
     replace hw := hw.behind hbq
     have hbc := Below.refl wq.heap.size wq
     obtain ⟨t284, hx285, H⟩ := bind_some H
     refine p_call hs (by rfl) (memory_Memory_Words.calls (some (⟨g271, 0, none⟩ : Addr)) y269 t284 _ (Rd.of_own (hw.up 4)) hx285) ?_
     rintro e wd288 ⟨Aa286, cc287, rfl, hw289⟩
     refine ⟨_, rfl, ?_⟩
     replace hbc := hw289.below
     replace hw := hw.call hw289
     clear hs; intro a hs; replace hs := hs.rms [90]
     refine c_done ⟨bl_of hbq hbc, ?_⟩
     clear hbc hbq
     refine c_seg ?_
     refine c_end ?_
     intro wq hbq
     replace hw := hw.behind hbq
     have hbc := Below.refl wq.heap.size wq
     obtain ⟨t292, hx293, H⟩ := bind_some H
     refine p_call hs (by rfl) (rivetref05_Memory_Words.calls (some ⟨g282, 0, none⟩) y280 t292 _ (rSrivetref05_Memory.of_m (hw.up 1)) hx293) ?_
     rintro e wd296 ⟨Aa294, cc295, rfl, hw297⟩
     refine ⟨_, rfl, ?_⟩
     replace hbc := hw297.below
     replace hw := hw.call hw297
     clear hs; intro a hs; replace hs := hs.rms [95]
     refine c_done ⟨bl_of hbq hbc, ?_⟩
     clear hbc hbq
     refine c_seg ?_
     refine c_end ?_
     intro wq hbq
     replace hw := hw.behind hbq
     have hbc := Below.refl wq.heap.size wq
     obtain ⟨t300, hx301, H⟩ := bind_some H
     refine p_call hs (by rfl) (rivetref05_Same.calls Aa286 cc287 t284 Aa294 cc295 t292 t300 _ (Rd.of_own (hw.up 1)) (Rd.of_own (hw.up 0)) hx301) ?_
     rintro e wd302 ⟨rfl, hw303⟩
     refine ⟨_, rfl, ?_⟩
     replace hbc := hw303.below
     replace hw := hw.call hw303
     clear hs; intro a hs; replace hs := hs.rms [91, 96]
     refine c_done ⟨bl_of hbq hbc, ?_⟩
     clear hbc hbq
     refine c_seg ?_
     refine c_pvs [11] [12, 14, 15, 16, 17] [97] [(98, .bool t300)] hs ?_; clear hs; intro a hs
     cases hb304 : t300
     ·replace H := ite_f H (ff hb304)
      rw [hb304] at hs
      refine c_pvs [12, 14, 15, 16, 17] [] [] [(99, undef), (104, undef)] hs ?_; clear hs; intro a hs
      refine c_end ?_
      intro wq hbq
      replace hw := hw.behind hbq
      have hbc := Below.refl wq.heap.size wq
      refine p_pvs [13] [] [99] [(100, undef)] hs ?_; clear hs; intro a hs
      refine c_done ⟨bl_of hbq hbc, ?_⟩
      clear hbc hbq
      refine c_seg ?_
      refine c_pvs [18, 19, 20, 21, 23, 24, 25, 26] [] [98, 100, 104] [(107, .bool false), (108, undef), (113, undef)] hs ?_; clear hs; intro a hs
      refine c_end ?_
      intro wq hbq
      replace hw := hw.behind hbq
      have hbc := Below.refl wq.heap.size wq
      refine p_pvs [22] [] [108] [(109, undef)] hs ?_; clear hs; intro a hs
      refine c_done ⟨bl_of hbq hbc, ?_⟩
      clear hbc hbq
      refine c_seg ?_
      refine c_pvs [27, 28, 29, 30, 32, 33, 34, 35] [] [12, 14, 107, 109, 113] [(116, .bool false), (117, undef), (122, undef)] hs ?_; clear hs; intro a hs
      refine c_end ?_
      intro wq hbq
      replace hw := hw.behind hbq
      have hbc := Below.refl wq.heap.size wq
      refine p_pvs [31] [] [117] [(118, undef)] hs ?_; clear hs; intro a hs
      refine c_done ⟨bl_of hbq hbc, ?_⟩
      clear hbc hbq
      refine c_last ?_
      refine c_pvs [36, 37, 38] [] [116, 118, 122] [(6, .bool false)] hs ?_; clear hs; intro a hs
      refine c_end ?_
      intro wq hbq
      replace hw := hw.behind hbq
      replace hw := hw.up 2
      replace hw := St.oM_back (m := mSrivetref05_Memory) (A := (some ⟨g282, 0, none⟩)) (x := y280) hw hy281
      replace hw := hw.up 5
      replace hw := hw.up 5
      replace hw := hw.up 2
      replace hw := hw.up 5
      replace hw := mSrivetref06_Machine.close (x := x201) hw
      replace hw := hw.up 3
      replace hw := St.oM_back (m := mSmemory_Memory) (A := (some (⟨g271, 0, none⟩ : Addr))) (x := y269) hw hy270
      replace hw := hw.up 6
      replace hw := hw.up 6
      replace hw := hw.up 2
      replace hw := hw.up 6
      replace hw := mSmachine_Machine.close (x := x89) hw
      replace hw := hw.up 10
      replace hw := hw.up 10
      replace hw := hw.up 10
      replace hw := hw.up 10
      replace hw := hw.up 10
      replace hw := hw.up 10
      replace hw := hw.up 6
      replace hw := hw.up 10
      replace hw := hw.up 8
      replace hw := hw.only 9
      exact hJ14 false _ _ hs.kx hw H
     ·replace H := ite_t H hb304
      rw [hb304] at hs
      refine c_pvs [12, 14, 15, 16] [17] [] [(99, .pointer (some (⟨g175, 0, none⟩ : Addr))), (103, .pointer (some (⟨g231, 1, none⟩ : Addr)))] hs ?_; clear hs; intro a hs
      refine c_run hs (by rfl) (fun wx hbx => (x_blds (g := g231) (o := 1) (p := (⟨g231, 1, none⟩ : Addr)) (vs := (eSapi_Regs.enc x201.S)) ((hw.behind hbx).up 3))) [103] ?_; clear hs; intro a hs
      refine c_end ?_
      intro wq hbq
      replace hw := hw.behind hbq
      have hbc := Below.refl wq.heap.size wq
      replace hw := hw.up 6
      replace hw := St.oM_back (m := mSmemory_Memory) (A := (some (⟨g271, 0, none⟩ : Addr))) (x := y269) hw hy270
      replace hw := hw.up 9
      replace hw := hw.up 9
      replace hw := hw.up 2
      replace hw := hw.up 9
      replace hw := mSmachine_Machine.close (x := x89) hw
      obtain ⟨t306, hx307, H⟩ := bind_some H
      refine p_call hs (by rfl) (machine_Machine_Regs.calls (some ⟨g175, 0, none⟩) x89 t306 _ (rSmachine_Machine.of_m (hw.up 0)) hx307) ?_
      rintro e wd308 ⟨rfl, hw309⟩
      refine ⟨_, rfl, ?_⟩
      replace hbc := hw309.below
      replace hw := hw.call hw309
      clear hs; intro a hs; replace hs := hs.rms [99]
      refine c_done ⟨bl_of hbq hbc, ?_⟩
      clear hbc hbq
      refine c_seg ?_
      refine c_run hs (by rfl) (fun wx hbx => (x_eql (xs := (eSapi_Regs.enc t306).toArray) (ys := (eSapi_Regs.enc x201.S).toArray) (r := ((decide (t306.R = x201.S.R)) && ((t306.H == x201.S.H) && ((t306.N == x201.S.N) && ((t306.Z == x201.S.Z) && ((t306.C == x201.S.C) && ((t306.V == x201.S.V) && true))))))) (by kernel_rfl) (by kernel_rfl) (by kernel_rfl) (eq_struct Tryd.underlying50 (by kernel_rfl) (eq_cons (a := .agg (eA48.enc t306.R).toArray) (b := .agg (eA48.enc x201.S.R).toArray) (r := (decide (t306.R = x201.S.R))) (s := ((t306.H == x201.S.H) && ((t306.N == x201.S.N) && ((t306.Z == x201.S.Z) && ((t306.C == x201.S.C) && ((t306.V == x201.S.V) && true)))))) (by kernel_rfl) (part_pv (by kernel_rfl)) (part_pv (by kernel_rfl)) (eq_vec (e := 38) (k' := .u32) (k := .u32) t306.R x201.S.R (by kernel_rfl) (by kernel_rfl) (by kernel_rfl) (by kernel_rfl) (by kernel_rfl)) (eq_cons (a := .int .u32 t306.H) (b := .int .u32 x201.S.H) (r := (t306.H == x201.S.H)) (s := ((t306.N == x201.S.N) && ((t306.Z == x201.S.Z) && ((t306.C == x201.S.C) && ((t306.V == x201.S.V) && true))))) (by kernel_rfl) (part_pv (by kernel_rfl)) (part_pv (by kernel_rfl)) (eq_pv (by kernel_rfl)) (eq_cons (a := .bool t306.N) (b := .bool x201.S.N) (r := (t306.N == x201.S.N)) (s := ((t306.Z == x201.S.Z) && ((t306.C == x201.S.C) && ((t306.V == x201.S.V) && true)))) (by kernel_rfl) (part_pv (by kernel_rfl)) (part_pv (by kernel_rfl)) (eq_pv (by kernel_rfl)) (eq_cons (a := .bool t306.Z) (b := .bool x201.S.Z) (r := (t306.Z == x201.S.Z)) (s := ((t306.C == x201.S.C) && ((t306.V == x201.S.V) && true))) (by kernel_rfl) (part_pv (by kernel_rfl)) (part_pv (by kernel_rfl)) (eq_pv (by kernel_rfl)) (eq_cons (a := .bool t306.C) (b := .bool x201.S.C) (r := (t306.C == x201.S.C)) (s := ((t306.V == x201.S.V) && true)) (by kernel_rfl) (part_pv (by kernel_rfl)) (part_pv (by kernel_rfl)) (eq_pv (by kernel_rfl)) (eq_cons (a := .bool t306.V) (b := .bool x201.S.V) (r := (t306.V == x201.S.V)) (s := true) (by kernel_rfl) (part_pv (by kernel_rfl)) (part_pv (by kernel_rfl)) (eq_pv (by kernel_rfl)) eq_nil))))))))) [100, 104] ?_; clear hs; intro a hs
      refine c_pvs [19, 20] [21, 23, 24, 25, 26] [98, 105] [(107, .bool ((decide (t306.R = x201.S.R)) && ((t306.H == x201.S.H) && ((t306.N == x201.S.N) && ((t306.Z == x201.S.Z) && ((t306.C == x201.S.C) && ((t306.V == x201.S.V) && true)))))))] hs ?_; clear hs; intro a hs
      cases hb310 : ((decide (t306.R = x201.S.R)) && ((t306.H == x201.S.H) && ((t306.N == x201.S.N) && ((t306.Z == x201.S.Z) && ((t306.C == x201.S.C) && ((t306.V == x201.S.V) && true))))))
      ·replace H := ite_f H (ff hb310)
       rw [hb310] at hs
       refine c_pvs [21, 23, 24, 25, 26] [] [] [(108, undef), (113, undef)] hs ?_; clear hs; intro a hs
       refine c_end ?_
       intro wq hbq
       replace hw := hw.behind hbq
       have hbc := Below.refl wq.heap.size wq
       refine p_pvs [22] [] [108] [(109, undef)] hs ?_; clear hs; intro a hs
       refine c_done ⟨bl_of hbq hbc, ?_⟩
       clear hbc hbq
       refine c_seg ?_
       refine c_pvs [27, 28, 29, 30, 32, 33, 34, 35] [] [12, 14, 107, 109, 113] [(116, .bool false), (117, undef), (122, undef)] hs ?_; clear hs; intro a hs
       refine c_end ?_
       intro wq hbq
       replace hw := hw.behind hbq
       have hbc := Below.refl wq.heap.size wq
       refine p_pvs [31] [] [117] [(118, undef)] hs ?_; clear hs; intro a hs
       refine c_done ⟨bl_of hbq hbc, ?_⟩
       clear hbc hbq
       refine c_last ?_
       refine c_pvs [36, 37, 38] [] [116, 118, 122] [(6, .bool false)] hs ?_; clear hs; intro a hs
       refine c_end ?_
       intro wq hbq
       replace hw := hw.behind hbq
       replace hw := hw.up 3
       replace hw := St.oM_back (m := mSrivetref05_Memory) (A := (some ⟨g282, 0, none⟩)) (x := y280) hw hy281
       replace hw := hw.up 6
       replace hw := hw.up 6
       replace hw := hw.up 2
       replace hw := hw.up 6
       replace hw := mSrivetref06_Machine.close (x := x201) hw
       replace hw := hw.up 10
       replace hw := hw.up 10
       replace hw := hw.up 10
       replace hw := hw.up 10
       replace hw := hw.up 10
       replace hw := hw.up 10
       replace hw := hw.up 7
       replace hw := hw.up 10
       replace hw := hw.up 8
       replace hw := hw.only 9
       exact hJ14 false _ _ hs.kx hw H
      ·replace H := ite_t H hb310
       rw [hb310] at hs
       refine c_pvs [21, 23, 24, 25] [26] [] [(108, .pointer (some (⟨g175, 0, none⟩ : Addr))), (112, .pointer (some (⟨g231, 22, none⟩ : Addr)))] hs ?_; clear hs; intro a hs
       refine c_run hs (by rfl) (fun wx hbx => (x_bld (g := g231) (o := 22) (p := (⟨g231, 22, none⟩ : Addr)) (v := .int .u32 x201.PC) ((hw.behind hbx).up 4))) [112] ?_; clear hs; intro a hs
       refine c_end ?_
       intro wq hbq
       replace hw := hw.behind hbq
       have hbc := Below.refl wq.heap.size wq
       obtain ⟨t312, hx313, H⟩ := bind_some H
       refine p_call hs (by rfl) (machine_Machine_PC.calls (some ⟨g175, 0, none⟩) x89 t312 _ (rSmachine_Machine.of_m (hw.up 0)) hx313) ?_
       rintro e wd314 ⟨rfl, hw315⟩
       refine ⟨_, rfl, ?_⟩
       replace hbc := hw315.below
       replace hw := hw.call hw315
       clear hs; intro a hs; replace hs := hs.rms [108]
       refine c_done ⟨bl_of hbq hbc, ?_⟩
       clear hbc hbq
       refine c_seg ?_
       refine c_pvs [27, 28, 29] [30, 32, 33, 34, 35] [107, 109, 113] [(116, .bool (t312 == x201.PC))] hs ?_; clear hs; intro a hs
       cases hb316 : (t312 == x201.PC)
       ·replace H := ite_f H (beq_eq_false_iff_ne.1 hb316)
        rw [hb316] at hs
        refine c_pvs [30, 32, 33, 34, 35] [] [12, 14] [(117, undef), (122, undef)] hs ?_; clear hs; intro a hs
        refine c_end ?_
        intro wq hbq
        replace hw := hw.behind hbq
        have hbc := Below.refl wq.heap.size wq
        refine p_pvs [31] [] [117] [(118, undef)] hs ?_; clear hs; intro a hs
        refine c_done ⟨bl_of hbq hbc, ?_⟩
        clear hbc hbq
        refine c_last ?_
        refine c_pvs [36, 37, 38] [] [116, 118, 122] [(6, .bool false)] hs ?_; clear hs; intro a hs
        refine c_end ?_
        intro wq hbq
        replace hw := hw.behind hbq
        replace hw := hw.up 3
        replace hw := St.oM_back (m := mSrivetref05_Memory) (A := (some ⟨g282, 0, none⟩)) (x := y280) hw hy281
        replace hw := hw.up 6
        replace hw := hw.up 6
        replace hw := hw.up 2
        replace hw := hw.up 6
        replace hw := mSrivetref06_Machine.close (x := x201) hw
        replace hw := hw.up 10
        replace hw := hw.up 10
        replace hw := hw.up 10
        replace hw := hw.up 10
        replace hw := hw.up 10
        replace hw := hw.up 10
        replace hw := hw.up 7
        replace hw := hw.up 10
        replace hw := hw.up 8
        replace hw := hw.only 9
        exact hJ14 false _ _ hs.kx hw H
       ·replace H := ite_t H (beq_iff_eq.1 hb316)
        rw [hb316] at hs
        refine c_pvs [30, 32, 33, 34] [35] [12, 14] [(117, .pointer (some (⟨g175, 0, none⟩ : Addr))), (121, .pointer (some (⟨g231, 23, none⟩ : Addr)))] hs ?_; clear hs; intro a hs
        refine c_run hs (by rfl) (fun wx hbx => (x_bld (g := g231) (o := 23) (p := (⟨g231, 23, none⟩ : Addr)) (v := .int .i64 x201.Status) ((hw.behind hbx).up 4))) [121] ?_; clear hs; intro a hs
        refine c_end ?_
        intro wq hbq
        replace hw := hw.behind hbq
        have hbc := Below.refl wq.heap.size wq
        obtain ⟨t318, hx319, H⟩ := bind_some H
        refine p_call hs (by rfl) (machine_Machine_Status.calls (some ⟨g175, 0, none⟩) x89 t318 _ (rSmachine_Machine.of_m (hw.up 0)) hx319) ?_
        rintro e wd320 ⟨rfl, hw321⟩
        refine ⟨_, rfl, ?_⟩
        replace hbc := hw321.below
        replace hw := hw.call hw321
        clear hs; intro a hs; replace hs := hs.rms [117]
        refine c_done ⟨bl_of hbq hbc, ?_⟩
        clear hbc hbq
        refine c_last ?_
        refine c_pvs [36, 37, 38] [] [116, 118, 122] [(6, .bool (t318 == x201.Status))] hs ?_; clear hs; intro a hs
        refine c_end ?_
        intro wq hbq
        replace hw := hw.behind hbq
        replace hw := hw.up 3
        replace hw := St.oM_back (m := mSrivetref05_Memory) (A := (some ⟨g282, 0, none⟩)) (x := y280) hw hy281
        replace hw := hw.up 6
        replace hw := hw.up 6
        replace hw := hw.up 2
        replace hw := hw.up 6
        replace hw := mSrivetref06_Machine.close (x := x201) hw
        replace hw := hw.up 10
        replace hw := hw.up 10
        replace hw := hw.up 10
        replace hw := hw.up 10
        replace hw := hw.up 10
        replace hw := hw.up 10
        replace hw := hw.up 7
        replace hw := hw.up 10
        replace hw := hw.up 8
        replace hw := hw.only 9
        exact hJ14 (t318 == x201.Status) _ _ hs.kx hw H
    refine go_seq_k fun K259 hK259 => ?_
    have hJ12 : ∀ (a : Act) (w : World), Slots a 125 [(12, .pointer (some (⟨g175, 0, none⟩ : Addr))), (14, .pointer (some (⟨g231, 0, none⟩ : Addr))), (86, .bool false)] → St [] w0 w [mSrivetref06_Machine (some ⟨g231, 0, none⟩) x201, own 72 eSapi_Sym Aa184 cc185 t178.Syms, mSmachine_Machine (some ⟨g175, 0, none⟩) x89, own 72 eSapi_Sym Aa72 cc73 t66.Syms, own 38 (eI .u32) Aa59 cc60 t56, own 72 eSapi_Sym Aa46 cc47 t40.Syms, own 38 (eI .u32) Aa33 cc34 t30, own 72 eSapi_Sym Aa20 cc21 t14.Syms, box g2 32 [.slice A0_1 a0.Words.length c0_1, .slice A0_2 a0.Sites.length c0_2, .slice A0_3 a0.Syms.length c0_3]] → rivetlaw12_LoadAll.j12 x89 x201 = some r → K259 a w := by
     intro a w hs hw H
     unfold rivetlaw12_LoadAll.j12 at H
     refine hK259 _ _ ?_
     refine go_cond hs false (fun hc => ?_) fun hc => ?_
     ·cases hc
     ·skip
      refine wp_skip ?_
      replace hw := hw.up 8
      replace hw := hw.up 8
      replace hw := hw.up 8
      replace hw := hw.up 8
      replace hw := hw.up 8
      replace hw := hw.up 8
      replace hw := hw.up 8
      replace hw := hw.up 8
      replace hw := hw.up 8
      exact hJ13 _ _ hs.kx hw H
    refine go_plain [] [(86, .bool false)] hs ?_; clear hs; intro a hs
    replace hw := hw.up 8
    replace hw := hw.up 8
    replace hw := hw.up 8
    replace hw := hw.up 8
    replace hw := hw.up 8
    replace hw := hw.up 8
    replace hw := hw.up 8
    replace hw := hw.up 8
    replace hw := hw.up 8
    exact hJ12 _ _ hs.kx hw H
   refine go_seq_k fun K233 hK233 => ?_
   have hJ10 : ∀ (v254 : Bool) (a : Act) (w : World), Slots a 125 [(12, .pointer (some (⟨g175, 0, none⟩ : Addr))), (14, .pointer (some (⟨g231, 0, none⟩ : Addr))), (80, .bool v254)] → St [] w0 w [mSrivetref06_Machine (some ⟨g231, 0, none⟩) x201, own 72 eSapi_Sym Aa184 cc185 t178.Syms, mSmachine_Machine (some ⟨g175, 0, none⟩) x89, own 72 eSapi_Sym Aa72 cc73 t66.Syms, own 38 (eI .u32) Aa59 cc60 t56, own 72 eSapi_Sym Aa46 cc47 t40.Syms, own 38 (eI .u32) Aa33 cc34 t30, own 72 eSapi_Sym Aa20 cc21 t14.Syms, box g2 32 [.slice A0_1 a0.Words.length c0_1, .slice A0_2 a0.Sites.length c0_2, .slice A0_3 a0.Syms.length c0_3]] → rivetlaw12_LoadAll.j10 x89 x201 v254 = some r → K233 a w := by
    intro v254 a w hs hw H
    unfold rivetlaw12_LoadAll.j10 at H
    refine hK233 _ _ ?_
    refine go_cond hs v254 (fun hc => ?_) fun hc => ?_
    ·replace H := ite_t H hc
     have hb255 := hc
     rw [hb255] at hs
     refine go_sp [12, 14, 80] [(6, .bool false)] hs ?_; clear hs; intro a hs
     refine wp_ret ?_
     refine th_ret ?_
     obtain rfl := Option.some.inj H
     refine ret1 (t := 6) (v := .bool false) hs (by kernel_rfl) (by kernel_rfl) ?_
     exact ⟨rfl, hw.only 0⟩
    ·replace H := ite_f H (ff hc)
     have hb257 := hc
     rw [hb257] at hs
     refine wp_skip ?_
     replace hw := hw.up 8
     replace hw := hw.up 8
     replace hw := hw.up 8
     replace hw := hw.up 8
     replace hw := hw.up 8
     replace hw := hw.up 8
     replace hw := hw.up 8
     replace hw := hw.up 8
     replace hw := hw.up 8
     exact hJ11 _ _ hs.kx hw H
   refine go_region ?_
   refine go_pvs 3 [7] [(49, .bool (!t8))] hs ?_; clear hs; intro a hs
   replace hs : Slots a 125 [(1, .int .i64 a1), (2, .int .i64 a2), (8, .slice Aa33 t30.length cc34), (9, .int .i64 t31), (10, .slice Aa59 t56.length cc60), (11, .int .i64 t57), (12, .pointer (some (⟨g175, 0, none⟩ : Addr))), (13, .int .i64 t83), (14, .pointer (some (⟨g231, 0, none⟩ : Addr))), (15, .int .i64 t195), (49, .bool (!t8))] := hs.kx
   cases hb234 : (!t8)
   ·replace H := ite_t H (nf hb234)
    rw [hb234] at hs
    refine go_pvs 5 [8, 10] [(50, .slice Aa33 t30.length cc34), (51, .slice Aa59 t56.length cc60)] hs ?_; clear hs; intro a hs
    obtain ⟨t236, hx237, H⟩ := bind_some H
    refine go_call hs (by rfl) (rivetref05_Same.calls Aa33 cc34 t30 Aa59 cc60 t56 t236 _ (Rd.of_own (hw.up 6)) (Rd.of_own (hw.up 4)) hx237) ?_
    rintro e wd238 ⟨rfl, hw239⟩
    refine ⟨_, rfl, ?_⟩
    replace hw := hw.call hw239
    clear hs; intro a hs; replace hs := hs.rms [50, 51]
    refine go_pvs 9 [49, 52] [(55, .bool (!t236))] hs ?_; clear hs; intro a hs
    cases hb240 : (!t236)
    ·replace H := ite_t H (nf hb240)
     rw [hb240] at hs
     refine go_pvs 14 [9, 11, 55] [(60, .bool (t31 != t57))] hs ?_; clear hs; intro a hs
     cases hb241 : (t31 != t57)
     ·replace H := ite_t H (bne_eq_false_iff_eq.1 hb241)
      rw [hb241] at hs
      refine go_pvs 19 [15, 60] [(65, .bool (t83 != t195))] hs ?_; clear hs; intro a hs
      cases hb242 : (t83 != t195)
      ·replace H := ite_t H (bne_eq_false_iff_eq.1 hb242)
       rw [hb242] at hs
       refine go_pvs 26 [13, 65] [(72, .bool (false != (t83 != 0)))] hs ?_; clear hs; intro a hs
       cases hb243 : (false != (t83 != 0))
       ·replace H := ite_f H (ff hb243)
        rw [hb243] at hs
        refine go_pvs 28 [] [(73, .int .i64 a1), (74, .int .i64 a2)] hs ?_; clear hs; intro a hs
        obtain ⟨t245, hx246, H⟩ := bind_some H
        refine go_call hs (by rfl) (load_Regs.calls a1 a2 t245 _ hx246) ?_
        rintro e wd247 ⟨rfl, hw248⟩
        refine ⟨_, rfl, ?_⟩
        replace hw := hw.call hw248
        clear hs; intro a hs; replace hs := hs.rms [73, 74]
        refine go_pvs 31 [1, 2] [(76, .int .i64 a1), (77, .int .i64 a2)] hs ?_; clear hs; intro a hs
        obtain ⟨t250, hx251, H⟩ := bind_some H
        refine go_call hs (by rfl) (rivetref12_Regs.calls a1 a2 t250 _ hx251) ?_
        rintro e wd252 ⟨rfl, hw253⟩
        refine ⟨_, rfl, ?_⟩
        replace hw := hw.call hw253
        clear hs; intro a hs; replace hs := hs.rms [76, 77]
        refine go_run hs (by rfl) (x_neq (xs := (eSapi_Regs.enc t245).toArray) (ys := (eSapi_Regs.enc t250).toArray) (r := ((decide (t245.R = t250.R)) && ((t245.H == t250.H) && ((t245.N == t250.N) && ((t245.Z == t250.Z) && ((t245.C == t250.C) && ((t245.V == t250.V) && true))))))) (by kernel_rfl) (by kernel_rfl) (by kernel_rfl) (eq_struct Tryd.underlying50 (by kernel_rfl) (eq_cons (a := .agg (eA48.enc t245.R).toArray) (b := .agg (eA48.enc t250.R).toArray) (r := (decide (t245.R = t250.R))) (s := ((t245.H == t250.H) && ((t245.N == t250.N) && ((t245.Z == t250.Z) && ((t245.C == t250.C) && ((t245.V == t250.V) && true)))))) (by kernel_rfl) (part_pv (by kernel_rfl)) (part_pv (by kernel_rfl)) (eq_vec (e := 38) (k' := .u32) (k := .u32) t245.R t250.R (by kernel_rfl) (by kernel_rfl) (by kernel_rfl) (by kernel_rfl) (by kernel_rfl)) (eq_cons (a := .int .u32 t245.H) (b := .int .u32 t250.H) (r := (t245.H == t250.H)) (s := ((t245.N == t250.N) && ((t245.Z == t250.Z) && ((t245.C == t250.C) && ((t245.V == t250.V) && true))))) (by kernel_rfl) (part_pv (by kernel_rfl)) (part_pv (by kernel_rfl)) (eq_pv (by kernel_rfl)) (eq_cons (a := .bool t245.N) (b := .bool t250.N) (r := (t245.N == t250.N)) (s := ((t245.Z == t250.Z) && ((t245.C == t250.C) && ((t245.V == t250.V) && true)))) (by kernel_rfl) (part_pv (by kernel_rfl)) (part_pv (by kernel_rfl)) (eq_pv (by kernel_rfl)) (eq_cons (a := .bool t245.Z) (b := .bool t250.Z) (r := (t245.Z == t250.Z)) (s := ((t245.C == t250.C) && ((t245.V == t250.V) && true))) (by kernel_rfl) (part_pv (by kernel_rfl)) (part_pv (by kernel_rfl)) (eq_pv (by kernel_rfl)) (eq_cons (a := .bool t245.C) (b := .bool t250.C) (r := (t245.C == t250.C)) (s := ((t245.V == t250.V) && true)) (by kernel_rfl) (part_pv (by kernel_rfl)) (part_pv (by kernel_rfl)) (eq_pv (by kernel_rfl)) (eq_cons (a := .bool t245.V) (b := .bool t250.V) (r := (t245.V == t250.V)) (s := true) (by kernel_rfl) (part_pv (by kernel_rfl)) (part_pv (by kernel_rfl)) (eq_pv (by kernel_rfl)) eq_nil)))))))) [75, 78] ?_; clear hs; intro a hs
        refine go_pvs 34 [72, 79] [(80, .bool (!((decide (t245.R = t250.R)) && ((t245.H == t250.H) && ((t245.N == t250.N) && ((t245.Z == t250.Z) && ((t245.C == t250.C) && ((t245.V == t250.V) && true))))))))] hs ?_; clear hs; intro a hs
        refine go_end ?_
        replace hw := hw.up 8
        replace hw := hw.up 8
        replace hw := hw.up 8
        replace hw := hw.up 8
        replace hw := hw.up 8
        replace hw := hw.up 8
        replace hw := hw.up 8
        replace hw := hw.up 8
        replace hw := hw.up 8
        exact hJ10 (!((decide (t245.R = t250.R)) && ((t245.H == t250.H) && ((t245.N == t250.N) && ((t245.Z == t250.Z) && ((t245.C == t250.C) && ((t245.V == t250.V) && true))))))) _ _ hs.kx hw H
       ·replace H := ite_t H hb243
        rw [hb243] at hs
        refine go_pvs 34 [1, 2, 72] [(80, .bool true)] hs ?_; clear hs; intro a hs
        refine go_end ?_
        replace hw := hw.up 8
        replace hw := hw.up 8
        replace hw := hw.up 8
        replace hw := hw.up 8
        replace hw := hw.up 8
        replace hw := hw.up 8
        replace hw := hw.up 8
        replace hw := hw.up 8
        replace hw := hw.up 8
        exact hJ10 true _ _ hs.kx hw H
      ·replace H := ite_f H (bne_iff_ne.1 hb242)
       rw [hb242] at hs
       refine go_pvs 34 [1, 2, 13, 65] [(80, .bool true)] hs ?_; clear hs; intro a hs
       refine go_end ?_
       replace hw := hw.up 8
       replace hw := hw.up 8
       replace hw := hw.up 8
       replace hw := hw.up 8
       replace hw := hw.up 8
       replace hw := hw.up 8
       replace hw := hw.up 8
       replace hw := hw.up 8
       replace hw := hw.up 8
       exact hJ10 true _ _ hs.kx hw H
     ·replace H := ite_f H (bne_iff_ne.1 hb241)
      rw [hb241] at hs
      refine go_pvs 34 [1, 2, 13, 15, 60] [(80, .bool true)] hs ?_; clear hs; intro a hs
      refine go_end ?_
      replace hw := hw.up 8
      replace hw := hw.up 8
      replace hw := hw.up 8
      replace hw := hw.up 8
      replace hw := hw.up 8
      replace hw := hw.up 8
      replace hw := hw.up 8
      replace hw := hw.up 8
      replace hw := hw.up 8
      exact hJ10 true _ _ hs.kx hw H
    ·replace H := ite_f H (ff (nt hb240))
     rw [hb240] at hs
     refine go_pvs 34 [1, 2, 9, 11, 13, 15, 55] [(80, .bool true)] hs ?_; clear hs; intro a hs
     refine go_end ?_
     replace hw := hw.up 8
     replace hw := hw.up 8
     replace hw := hw.up 8
     replace hw := hw.up 8
     replace hw := hw.up 8
     replace hw := hw.up 8
     replace hw := hw.up 8
     replace hw := hw.up 8
     replace hw := hw.up 8
     exact hJ10 true _ _ hs.kx hw H
   ·replace H := ite_f H (ff (nt hb234))
    rw [hb234] at hs
    refine go_pvs 34 [1, 2, 8, 9, 10, 11, 13, 15, 49] [(80, .bool true)] hs ?_; clear hs; intro a hs
    refine go_end ?_
    replace hw := hw.up 8
    replace hw := hw.up 8
    replace hw := hw.up 8
    replace hw := hw.up 8
    replace hw := hw.up 8
    replace hw := hw.up 8
    replace hw := hw.up 8
    replace hw := hw.up 8
    replace hw := hw.up 8
    exact hJ10 true _ _ hs.kx hw H

end Go.Proofs.YtheccnbamcdpmaaDoor.T12
