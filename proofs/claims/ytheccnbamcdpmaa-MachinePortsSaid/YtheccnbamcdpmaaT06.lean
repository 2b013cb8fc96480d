/- YtheccnbamcdpmaaT06: Go functions told as plain ones, each with a proof that its call comes to what is told, part 5. Condition of each: that the plain function comes to a value. -/
import Derived.Test.YtheccnbamcdpmaaT06d
namespace Go.Proofs.Ytheccnbamcdpmaa.T06
open Go Go.RowKit Go.Proofs.Ytheccnbamcdpmaa.E
set_option linter.unusedVariables false
set_option linter.unusedSimpArgs false

/-! rivet/rivetlaw06.made: function 10 -/
noncomputable def rivetlaw06_made.j2 : Option ((Option Smachine_Machine) × (Option Srivetref06_Machine)) := some ((none : Option Smachine_Machine), (none : Option Srivetref06_Machine))
noncomputable def rivetlaw06_made.j1 : Option ((Option Smachine_Machine) × (Option Srivetref06_Machine)) := rivetlaw06_made.j2
noncomputable def rivetlaw06_made.j4 (x43 : Srivetref06_Machine) : Option ((Option Smachine_Machine) × (Option Srivetref06_Machine)) := some ((none : Option Smachine_Machine), (some x43))
noncomputable def rivetlaw06_made.j3 (x43 : Srivetref06_Machine) : Option ((Option Smachine_Machine) × (Option Srivetref06_Machine)) := rivetlaw06_made.j4 x43
noncomputable def rivetlaw06_made.j6 (x24 : Smachine_Machine) : Option ((Option Smachine_Machine) × (Option Srivetref06_Machine)) := some ((some x24), (none : Option Srivetref06_Machine))
noncomputable def rivetlaw06_made.j5 (x24 : Smachine_Machine) : Option ((Option Smachine_Machine) × (Option Srivetref06_Machine)) := rivetlaw06_made.j6 x24
noncomputable def rivetlaw06_made.j8 (v131 : Srivetref06_Machine) (v132 : Smachine_Machine) : Option ((Option Smachine_Machine) × (Option Srivetref06_Machine)) := some ((some v132), (some v131))
noncomputable def rivetlaw06_made.j7 (x24 : Smachine_Machine) (l0 : List Int) (x73 : Srivetref06_Machine) (a1 : Srivetlaw06_Set) : Option ((Option Smachine_Machine) × (Option Srivetref06_Machine)) := ((x24.Memory).bind fun y90 => (((memory_Memory_Place y90 0 l0).bind fun ⟨t94, t95⟩ => (((x73.M).bind fun y108 => (((rivetref05_Memory_Place y108 0 l0).bind fun ⟨t112, t113⟩ => (((machine_Machine_Start (⟨(some t95), x24.s, x24.pc, x24.status, x24.in', x24.out⟩ : Smachine_Machine) a1.PC a1.S).bind fun t122 => (((rivetref06_Machine_Start (⟨(some t113), x73.S, x73.PC, x73.Status, x73.In, x73.Out⟩ : Srivetref06_Machine) a1.PC a1.S).bind fun t127 => (rivetlaw06_made.j8 t127 t122))))))))))))
noncomputable def rivetlaw06_made (l0 : List Int) (a1 : Srivetlaw06_Set) : Option ((Option Smachine_Machine) × (Option Srivetref06_Machine)) := ((rivetlaw06_few a1.In).bind fun t8 => (((machine_New (w64 ((l0.length : Int) + 4)) t8).bind fun ⟨t17, t18⟩ => ((match t17 with | none => ((rivetlaw06_few a1.In).bind fun t27 => (((rivetref06_New (w64 ((l0.length : Int) + 4)) t27).bind fun ⟨t36, t37⟩ => ((match t36 with | none => rivetlaw06_made.j1 | some x43 => rivetlaw06_made.j3 x43))))) | some x24 => ((rivetlaw06_few a1.In).bind fun t57 => (((rivetref06_New (w64 ((l0.length : Int) + 4)) t57).bind fun ⟨t66, t67⟩ => ((match t66 with | none => rivetlaw06_made.j5 x24 | some x73 => rivetlaw06_made.j7 x24 l0 x73 a1))))))))))
set_option maxRecDepth 100000 in
set_option maxHeartbeats 4000000 in
theorem rivetlaw06_made.calls (A0 : Option Addr) (c0 : Nat) (l0 : List Int) (a1 : Srivetlaw06_Set) (A1_1 : Option Addr) (c1_1 : Nat) (r : (Option Smachine_Machine) × (Option Srivetref06_Machine)) (w0 : World) (hr0 : Rd w0 (eI .u32) A0 c0 l0) (hr1_1 : Rd w0 (eI .u32) A1_1 c1_1 a1.In) (H : rivetlaw06_made l0 a1 = some r) :
    Calls Try.prog 10 #[.slice A0 l0.length c0, .agg #[.int .u32 (vx 0 a1.S.R 0), .int .u32 (vx 0 a1.S.R 1), .int .u32 (vx 0 a1.S.R 2), .int .u32 (vx 0 a1.S.R 3), .int .u32 (vx 0 a1.S.R 4), .int .u32 (vx 0 a1.S.R 5), .int .u32 (vx 0 a1.S.R 6), .int .u32 (vx 0 a1.S.R 7), .int .u32 (vx 0 a1.S.R 8), .int .u32 (vx 0 a1.S.R 9), .int .u32 (vx 0 a1.S.R 10), .int .u32 (vx 0 a1.S.R 11), .int .u32 (vx 0 a1.S.R 12), .int .u32 (vx 0 a1.S.R 13), .int .u32 (vx 0 a1.S.R 14), .int .u32 (vx 0 a1.S.R 15), .int .u32 a1.S.H, .bool a1.S.N, .bool a1.S.Z, .bool a1.S.C, .bool a1.S.V, .int .u32 a1.PC, .slice A1_1 a1.In.length c1_1]] w0 fun e w' => ∃ A_0, ∃ A_1, e = .returned (.tuple #[.pointer A_0, .pointer A_1]) ∧ St [] w0 w' [oM mSmachine_Machine A_0 r.1, oM mSrivetref06_Machine A_1 r.2] := by
 have hw : St [] w0 w0 [] := St.nil w0
 unfold rivetlaw06_made at H
 refine go_fn Try.func10 rfl Try.ntmps10 ?_; intro a hs
 refine go_sk fun K1 hK1 => ?_
 obtain ⟨g2, wd3, hx4, hw⟩ := x_boxc (P := Try.prog) (elem := 28) (v := (Operand.tmp 1)) (ty := 0) (cs := eSapi_Regs.enc a1.S ++ [.int .u32 a1.PC, .slice A1_1 a1.In.length c1_1]) hs hw (by kernel_rfl)
 refine go_run hs (by rfl) hx4 [1] ?_; clear hs; intro a hs
 refine go_pvs 3 [] [] hs ?_; clear hs; intro a hs
 refine go_end (hK1 _ _ ?_)
 refine go_sk fun K6 hK6 => ?_
 refine go_pvs 4 [] [(13, .int .i64 (w64 ((l0.length : Int) + 4))), (14, .pointer (some (⟨g2, 22, none⟩ : Addr)))] hs ?_; clear hs; intro a hs
 refine go_run hs (by rfl) (x_bld (g := g2) (o := 22) (p := (⟨g2, 22, none⟩ : Addr)) (v := .slice A1_1 a1.In.length c1_1) (hw.up 0)) [14] ?_; clear hs; intro a hs
 obtain ⟨t8, hx9, H⟩ := bind_some H
 refine go_call hs (by rfl) (rivetlaw06_few.calls A1_1 c1_1 a1.In t8 _ (hr1_1.old hw) hx9) ?_
 rintro e wd12 ⟨Aa10, cc11, rfl, hc14, hw13⟩
 refine ⟨_, rfl, ?_⟩
 replace hw := hw.call hw13
 clear hs; intro a hs; replace hs := hs.rms [15]
 obtain ⟨⟨t17, t18⟩, hx19, H⟩ := bind_some H
 refine go_call hs (by rfl) (machine_New.calls (w64 ((l0.length : Int) + 4)) Aa10 cc11 t8 (t17, t18) _ (hc14 _ (hr1_1.old hw)) hx19) ?_
 rintro e wd21 ⟨Aa20, rfl, hw22⟩
 refine ⟨_, rfl, ?_⟩
 replace hw := hw.call hw22
 clear hs; intro a hs; replace hs := hs.rms [13, 16]
 rcases t17 with _ | x24
 ·obtain ⟨hAg, hwg⟩ := St.oM_none hw
  clear hw; subst hAg; have hw := hwg; clear hwg
  refine go_pvs 12 [17] [(6, .pointer none)] hs ?_; clear hs; intro a hs
  refine go_end (hK6 _ _ ?_)
  refine go_sk fun K25 hK25 => ?_
  refine go_pvs 4 [] [(23, .int .i64 (w64 ((l0.length : Int) + 4))), (24, .pointer (some (⟨g2, 22, none⟩ : Addr)))] hs ?_; clear hs; intro a hs
  refine go_run hs (by rfl) (x_bld (g := g2) (o := 22) (p := (⟨g2, 22, none⟩ : Addr)) (v := .slice A1_1 a1.In.length c1_1) (hw.up 0)) [24] ?_; clear hs; intro a hs
  obtain ⟨t27, hx28, H⟩ := bind_some H
  refine go_call hs (by rfl) (rivetlaw06_few.calls A1_1 c1_1 a1.In t27 _ (hr1_1.old hw) hx28) ?_
  rintro e wd31 ⟨Aa29, cc30, rfl, hc33, hw32⟩
  refine ⟨_, rfl, ?_⟩
  replace hw := hw.call hw32
  clear hs; intro a hs; replace hs := hs.rms [25]
  obtain ⟨⟨t36, t37⟩, hx38, H⟩ := bind_some H
  refine go_call hs (by rfl) (rivetref06_New.calls (w64 ((l0.length : Int) + 4)) Aa29 cc30 t27 (t36, t37) _ (hc33 _ (hr1_1.old hw)) hx38) ?_
  rintro e wd40 ⟨Aa39, rfl, hw41⟩
  refine ⟨_, rfl, ?_⟩
  replace hw := hw.call hw41
  clear hs; intro a hs; replace hs := hs.rms [23, 26]
  rcases t36 with _ | x43
  ·obtain ⟨hAg, hwg⟩ := St.oM_none hw
   clear hw; subst hAg; have hw := hwg; clear hwg
   refine go_pvs 12 [27] [(8, .pointer none)] hs ?_; clear hs; intro a hs
   refine go_end (hK25 _ _ ?_)
   refine go_seq_k fun K44 hK44 => ?_
   have hJ2 : ∀ (a : Act) (w : World), Slots a 62 [(6, .pointer none), (8, .pointer none)] → St [] w0 w [box g2 28 (eSapi_Regs.enc a1.S ++ [.int .u32 a1.PC, .slice A1_1 a1.In.length c1_1])] → rivetlaw06_made.j2 = some r → K44 a w := by
    intro a w hs hw H
    unfold rivetlaw06_made.j2 at H
    refine hK44 _ _ ?_
    refine go_sp [6, 8] [(4, .pointer none), (5, .pointer none)] hs ?_; clear hs; intro a hs
    refine wp_ret ?_
    obtain rfl := Option.some.inj H
    replace hw := St.oM_nil mSmachine_Machine hw
    replace hw := St.oM_nil mSrivetref06_Machine hw
    replace hw := hw.up 1
    refine ret2 (t1 := 4) (v1 := .pointer none) (t2 := 5) (v2 := .pointer none) hs (by kernel_rfl) (by kernel_rfl) (by kernel_rfl) ?_
    exact ⟨none, none, rfl, hw.only 2⟩
   refine go_seq_k fun K45 hK45 => ?_
   have hJ1 : ∀ (a : Act) (w : World), Slots a 62 [(0, .slice A0 l0.length c0), (3, .pointer (some (⟨g2, 0, none⟩ : Addr))), (6, .pointer none), (8, .pointer none), (35, .bool false)] → St [] w0 w [box g2 28 (eSapi_Regs.enc a1.S ++ [.int .u32 a1.PC, .slice A1_1 a1.In.length c1_1])] → rivetlaw06_made.j1 = some r → K45 a w := by
    intro a w hs hw H
    unfold rivetlaw06_made.j1 at H
    refine hK45 _ _ ?_
    refine go_cond hs false (fun hc => ?_) fun hc => ?_
    ·cases hc
    ·skip
     refine wp_skip ?_
     exact hJ2 _ _ hs.kx hw H
   refine go_plain [] [(35, .bool false)] hs ?_; clear hs; intro a hs
   exact hJ1 _ _ hs.kx hw H
  ·replace hw : St [] w0 _ [mSrivetref06_Machine Aa39 x43, box g2 28 (eSapi_Regs.enc a1.S ++ [.int .u32 a1.PC, .slice A1_1 a1.In.length c1_1])] := hw
   obtain ⟨g49, hAg, hwg⟩ := mSrivetref06_Machine.addr hw
   clear hw; subst hAg; have hw := hwg; clear hwg
   replace hw : St [] w0 _ [mSrivetref06_Machine (some ⟨g49, 0, none⟩) x43, box g2 28 (eSapi_Regs.enc a1.S ++ [.int .u32 a1.PC, .slice A1_1 a1.In.length c1_1])] := hw
   refine go_pvs 12 [27] [(8, .pointer (some (⟨g49, 0, none⟩ : Addr)))] hs ?_; clear hs; intro a hs
   refine go_end (hK25 _ _ ?_)
   refine go_seq_k fun K50 hK50 => ?_
   have hJ4 : ∀ (a : Act) (w : World), Slots a 62 [(6, .pointer none), (8, .pointer (some (⟨g49, 0, none⟩ : Addr)))] → St [] w0 w [mSrivetref06_Machine (some ⟨g49, 0, none⟩) x43, box g2 28 (eSapi_Regs.enc a1.S ++ [.int .u32 a1.PC, .slice A1_1 a1.In.length c1_1])] → rivetlaw06_made.j4 x43 = some r → K50 a w := by
    intro a w hs hw H
    unfold rivetlaw06_made.j4 at H
    refine hK50 _ _ ?_
    refine go_sp [6, 8] [(4, .pointer none), (5, .pointer (some (⟨g49, 0, none⟩ : Addr)))] hs ?_; clear hs; intro a hs
    refine wp_ret ?_
    obtain rfl := Option.some.inj H
    replace hw := St.oM_nil mSmachine_Machine hw
    replace hw := hw.up 1
    replace hw := hw.up 1
    refine ret2 (t1 := 4) (v1 := .pointer none) (t2 := 5) (v2 := .pointer (some (⟨g49, 0, none⟩ : Addr))) hs (by kernel_rfl) (by kernel_rfl) (by kernel_rfl) ?_
    exact ⟨none, (some ⟨g49, 0, none⟩), rfl, hw.only 2⟩
   refine go_seq_k fun K51 hK51 => ?_
   have hJ3 : ∀ (a : Act) (w : World), Slots a 62 [(0, .slice A0 l0.length c0), (3, .pointer (some (⟨g2, 0, none⟩ : Addr))), (6, .pointer none), (8, .pointer (some (⟨g49, 0, none⟩ : Addr))), (35, .bool false)] → St [] w0 w [mSrivetref06_Machine (some ⟨g49, 0, none⟩) x43, box g2 28 (eSapi_Regs.enc a1.S ++ [.int .u32 a1.PC, .slice A1_1 a1.In.length c1_1])] → rivetlaw06_made.j3 x43 = some r → K51 a w := by
    intro a w hs hw H
    unfold rivetlaw06_made.j3 at H
    refine hK51 _ _ ?_
    refine go_cond hs false (fun hc => ?_) fun hc => ?_
    ·cases hc
    ·skip
     refine wp_skip ?_
     replace hw := hw.up 1
     replace hw := hw.up 1
     exact hJ4 _ _ hs.kx hw H
   refine go_plain [] [(35, .bool false)] hs ?_; clear hs; intro a hs
   replace hw := hw.up 1
   replace hw := hw.up 1
   exact hJ3 _ _ hs.kx hw H
 ·replace hw : St [] w0 _ [mSmachine_Machine Aa20 x24, box g2 28 (eSapi_Regs.enc a1.S ++ [.int .u32 a1.PC, .slice A1_1 a1.In.length c1_1])] := hw
  obtain ⟨g54, hAg, hwg⟩ := mSmachine_Machine.addr hw
  clear hw; subst hAg; have hw := hwg; clear hwg
  replace hw : St [] w0 _ [mSmachine_Machine (some ⟨g54, 0, none⟩) x24, box g2 28 (eSapi_Regs.enc a1.S ++ [.int .u32 a1.PC, .slice A1_1 a1.In.length c1_1])] := hw
  refine go_pvs 12 [17] [(6, .pointer (some (⟨g54, 0, none⟩ : Addr)))] hs ?_; clear hs; intro a hs
  refine go_end (hK6 _ _ ?_)
  refine go_sk fun K55 hK55 => ?_
  refine go_pvs 4 [] [(23, .int .i64 (w64 ((l0.length : Int) + 4))), (24, .pointer (some (⟨g2, 22, none⟩ : Addr)))] hs ?_; clear hs; intro a hs
  refine go_run hs (by rfl) (x_bld (g := g2) (o := 22) (p := (⟨g2, 22, none⟩ : Addr)) (v := .slice A1_1 a1.In.length c1_1) (hw.up 1)) [24] ?_; clear hs; intro a hs
  obtain ⟨t57, hx58, H⟩ := bind_some H
  refine go_call hs (by rfl) (rivetlaw06_few.calls A1_1 c1_1 a1.In t57 _ (hr1_1.old hw) hx58) ?_
  rintro e wd61 ⟨Aa59, cc60, rfl, hc63, hw62⟩
  refine ⟨_, rfl, ?_⟩
  replace hw := hw.call hw62
  clear hs; intro a hs; replace hs := hs.rms [25]
  obtain ⟨⟨t66, t67⟩, hx68, H⟩ := bind_some H
  refine go_call hs (by rfl) (rivetref06_New.calls (w64 ((l0.length : Int) + 4)) Aa59 cc60 t57 (t66, t67) _ (hc63 _ (hr1_1.old hw)) hx68) ?_
  rintro e wd70 ⟨Aa69, rfl, hw71⟩
  refine ⟨_, rfl, ?_⟩
  replace hw := hw.call hw71
  clear hs; intro a hs; replace hs := hs.rms [23, 26]
  rcases t66 with _ | x73
  ·obtain ⟨hAg, hwg⟩ := St.oM_none hw
   clear hw; subst hAg; have hw := hwg; clear hwg
   refine go_pvs 12 [27] [(8, .pointer none)] hs ?_; clear hs; intro a hs
   refine go_end (hK55 _ _ ?_)
   refine go_seq_k fun K74 hK74 => ?_
   have hJ6 : ∀ (a : Act) (w : World), Slots a 62 [(6, .pointer (some (⟨g54, 0, none⟩ : Addr))), (8, .pointer none)] → St [] w0 w [mSmachine_Machine (some ⟨g54, 0, none⟩) x24, box g2 28 (eSapi_Regs.enc a1.S ++ [.int .u32 a1.PC, .slice A1_1 a1.In.length c1_1])] → rivetlaw06_made.j6 x24 = some r → K74 a w := by
    intro a w hs hw H
    unfold rivetlaw06_made.j6 at H
    refine hK74 _ _ ?_
    refine go_sp [6, 8] [(4, .pointer (some (⟨g54, 0, none⟩ : Addr))), (5, .pointer none)] hs ?_; clear hs; intro a hs
    refine wp_ret ?_
    obtain rfl := Option.some.inj H
    replace hw := St.oM_nil mSrivetref06_Machine hw
    replace hw := hw.up 1
    refine ret2 (t1 := 4) (v1 := .pointer (some (⟨g54, 0, none⟩ : Addr))) (t2 := 5) (v2 := .pointer none) hs (by kernel_rfl) (by kernel_rfl) (by kernel_rfl) ?_
    exact ⟨(some ⟨g54, 0, none⟩), none, rfl, hw.only 2⟩
   refine go_seq_k fun K75 hK75 => ?_
   have hJ5 : ∀ (a : Act) (w : World), Slots a 62 [(0, .slice A0 l0.length c0), (3, .pointer (some (⟨g2, 0, none⟩ : Addr))), (6, .pointer (some (⟨g54, 0, none⟩ : Addr))), (8, .pointer none), (35, .bool false)] → St [] w0 w [mSmachine_Machine (some ⟨g54, 0, none⟩) x24, box g2 28 (eSapi_Regs.enc a1.S ++ [.int .u32 a1.PC, .slice A1_1 a1.In.length c1_1])] → rivetlaw06_made.j5 x24 = some r → K75 a w := by
    intro a w hs hw H
    unfold rivetlaw06_made.j5 at H
    refine hK75 _ _ ?_
    refine go_cond hs false (fun hc => ?_) fun hc => ?_
    ·cases hc
    ·skip
     refine wp_skip ?_
     replace hw := hw.up 1
     replace hw := hw.up 1
     exact hJ6 _ _ hs.kx hw H
   refine go_plain [] [(35, .bool false)] hs ?_; clear hs; intro a hs
   replace hw := hw.up 1
   replace hw := hw.up 1
   exact hJ5 _ _ hs.kx hw H
  ·replace hw : St [] w0 _ [mSrivetref06_Machine Aa69 x73, mSmachine_Machine (some ⟨g54, 0, none⟩) x24, box g2 28 (eSapi_Regs.enc a1.S ++ [.int .u32 a1.PC, .slice A1_1 a1.In.length c1_1])] := hw
   obtain ⟨g78, hAg, hwg⟩ := mSrivetref06_Machine.addr hw
   clear hw; subst hAg; have hw := hwg; clear hwg
   replace hw : St [] w0 _ [mSrivetref06_Machine (some ⟨g78, 0, none⟩) x73, mSmachine_Machine (some ⟨g54, 0, none⟩) x24, box g2 28 (eSapi_Regs.enc a1.S ++ [.int .u32 a1.PC, .slice A1_1 a1.In.length c1_1])] := hw
   refine go_pvs 12 [27] [(8, .pointer (some (⟨g78, 0, none⟩ : Addr)))] hs ?_; clear hs; intro a hs
   refine go_end (hK55 _ _ ?_)
   refine go_seq_k fun K79 hK79 => ?_
   have hJ8 : ∀ (v131 : Srivetref06_Machine) (v132 : Smachine_Machine) (a : Act) (w : World), Slots a 62 [(6, .pointer (some (⟨g54, 0, none⟩ : Addr))), (8, .pointer (some (⟨g78, 0, none⟩ : Addr)))] → St [] w0 w [mSrivetref06_Machine (some ⟨g78, 0, none⟩) v131, mSmachine_Machine (some ⟨g54, 0, none⟩) v132, box g2 28 (eSapi_Regs.enc a1.S ++ [.int .u32 a1.PC, .slice A1_1 a1.In.length c1_1])] → rivetlaw06_made.j8 v131 v132 = some r → K79 a w := by
    intro v131 v132 a w hs hw H
    unfold rivetlaw06_made.j8 at H
    refine hK79 _ _ ?_
    refine go_sp [6, 8] [(4, .pointer (some (⟨g54, 0, none⟩ : Addr))), (5, .pointer (some (⟨g78, 0, none⟩ : Addr)))] hs ?_; clear hs; intro a hs
    refine wp_ret ?_
    obtain rfl := Option.some.inj H
    replace hw := hw.up 1
    refine ret2 (t1 := 4) (v1 := .pointer (some (⟨g54, 0, none⟩ : Addr))) (t2 := 5) (v2 := .pointer (some (⟨g78, 0, none⟩ : Addr))) hs (by kernel_rfl) (by kernel_rfl) (by kernel_rfl) ?_
    exact ⟨(some ⟨g54, 0, none⟩), (some ⟨g78, 0, none⟩), rfl, hw.only 2⟩
   refine go_seq_k fun K80 hK80 => ?_
   have hJ7 : ∀ (a : Act) (w : World), Slots a 62 [(0, .slice A0 l0.length c0), (3, .pointer (some (⟨g2, 0, none⟩ : Addr))), (6, .pointer (some (⟨g54, 0, none⟩ : Addr))), (8, .pointer (some (⟨g78, 0, none⟩ : Addr))), (35, .bool true)] → St [] w0 w [mSrivetref06_Machine (some ⟨g78, 0, none⟩) x73, mSmachine_Machine (some ⟨g54, 0, none⟩) x24, box g2 28 (eSapi_Regs.enc a1.S ++ [.int .u32 a1.PC, .slice A1_1 a1.In.length c1_1])] → rivetlaw06_made.j7 x24 l0 x73 a1 = some r → K80 a w := by
    intro a w hs hw H
    unfold rivetlaw06_made.j7 at H
    refine hK80 _ _ ?_
    refine go_cond hs true (fun hc => ?_) fun hc => ?_
    ·skip
     refine go_sk fun K81 hK81 => ?_
     refine go_pvs 3 [35] [(38, .pointer (some (⟨g54, 0, none⟩ : Addr)))] hs ?_; clear hs; intro a hs
     replace hw := hw.up 1
     obtain ⟨Aa82, Aa84, cc85, Aa87, cc88, hw⟩ := mSmachine_Machine.open1 hw
     replace hw : St [] w0 _ [box g54 40 ([.pointer Aa82] ++ eSapi_Regs.enc x24.s ++ [.int .u32 x24.pc, .int .i64 x24.status, .slice Aa84 x24.in'.length cc85, .slice Aa87 x24.out.length cc88]), oM mSmemory_Memory Aa82 x24.Memory, rdo (eI .u32) Aa84 cc85 x24.in', own 23 (eI .u32) Aa87 cc88 x24.out, mSrivetref06_Machine (some ⟨g78, 0, none⟩) x73, box g2 28 (eSapi_Regs.enc a1.S ++ [.int .u32 a1.PC, .slice A1_1 a1.In.length c1_1])] := hw
     replace hw := hw.up 1
     obtain ⟨y90, hy91, H⟩ := bind_some H
     replace hw := St.oM_some hw hy91
     obtain ⟨g92, hAg, hwg⟩ := St.one hw
     clear hw; subst hAg; have hw := hwg; clear hwg
     replace hw : St [] w0 _ [own 75 eSmemory_Memory (some (⟨g92, 0, none⟩ : Addr)) 1 [y90], box g54 40 ([.pointer (some (⟨g92, 0, none⟩ : Addr))] ++ eSapi_Regs.enc x24.s ++ [.int .u32 x24.pc, .int .i64 x24.status, .slice Aa84 x24.in'.length cc85, .slice Aa87 x24.out.length cc88]), rdo (eI .u32) Aa84 cc85 x24.in', own 23 (eI .u32) Aa87 cc88 x24.out, mSrivetref06_Machine (some ⟨g78, 0, none⟩) x73, box g2 28 (eSapi_Regs.enc a1.S ++ [.int .u32 a1.PC, .slice A1_1 a1.In.length c1_1])] := hw
     refine go_run hs (by rfl) (x_bld (g := g54) (o := 0) (p := (⟨g54, 0, none⟩ : Addr)) (v := .pointer (some (⟨g92, 0, none⟩ : Addr))) (hw.up 1)) [38] ?_; clear hs; intro a hs
     refine go_pvs 5 [] [(40, .slice A0 l0.length c0)] hs ?_; clear hs; intro a hs
     obtain ⟨ks93, hgks93, hstks93, hbkks93⟩ := hw.lend 1
     obtain ⟨⟨t94, t95⟩, hx96, H⟩ := bind_some H
     refine go_call hs (by rfl) (memory_Memory_Place.calls ks93 (some (⟨g92, 0, none⟩ : Addr)) y90 0 A0 c0 l0 (t94, t95) _ hgks93 (fun wz hkz => (hr0.old (hstks93 _ hkz))) hx96) ?_
     rintro e wd97 ⟨rfl, hw98⟩
     refine ⟨_, rfl, ?_⟩
     replace hw := hbkks93 _ _ hw98
     replace hw : St [] w0 _ [own 75 eSmemory_Memory (some (⟨g92, 0, none⟩ : Addr)) 1 [t95], box g54 40 ([.pointer (some (⟨g92, 0, none⟩ : Addr))] ++ eSapi_Regs.enc x24.s ++ [.int .u32 x24.pc, .int .i64 x24.status, .slice Aa84 x24.in'.length cc85, .slice Aa87 x24.out.length cc88]), rdo (eI .u32) Aa84 cc85 x24.in', own 23 (eI .u32) Aa87 cc88 x24.out, mSrivetref06_Machine (some ⟨g78, 0, none⟩) x73, box g2 28 (eSapi_Regs.enc a1.S ++ [.int .u32 a1.PC, .slice A1_1 a1.In.length c1_1])] := hw
     clear hs; intro a hs; replace hs := hs.rms [39, 40, 41]
     refine go_end (hK81 _ _ ?_)
     refine go_sk fun K99 hK99 => ?_
     refine go_pvs 3 [] [(44, .pointer (some (⟨g78, 0, none⟩ : Addr)))] hs ?_; clear hs; intro a hs
     replace hw := hw.up 4
     obtain ⟨Aa100, Aa102, cc103, Aa105, cc106, hw⟩ := mSrivetref06_Machine.open1 hw
     replace hw : St [] w0 _ [box g78 72 ([.pointer Aa100] ++ eSapi_Regs.enc x73.S ++ [.int .u32 x73.PC, .int .i64 x73.Status, .slice Aa102 x73.In.length cc103, .slice Aa105 x73.Out.length cc106]), oM mSrivetref05_Memory Aa100 x73.M, rdo (eI .u32) Aa102 cc103 x73.In, own 23 (eI .u32) Aa105 cc106 x73.Out, own 75 eSmemory_Memory (some (⟨g92, 0, none⟩ : Addr)) 1 [t95], box g54 40 ([.pointer (some (⟨g92, 0, none⟩ : Addr))] ++ eSapi_Regs.enc x24.s ++ [.int .u32 x24.pc, .int .i64 x24.status, .slice Aa84 x24.in'.length cc85, .slice Aa87 x24.out.length cc88]), rdo (eI .u32) Aa84 cc85 x24.in', own 23 (eI .u32) Aa87 cc88 x24.out, box g2 28 (eSapi_Regs.enc a1.S ++ [.int .u32 a1.PC, .slice A1_1 a1.In.length c1_1])] := hw
     replace hw := hw.up 1
     obtain ⟨y108, hy109, H⟩ := bind_some H
     replace hw := St.oM_some hw hy109
     obtain ⟨g110, hAg, hwg⟩ := mSrivetref05_Memory.addr hw
     clear hw; subst hAg; have hw := hwg; clear hwg
     replace hw : St [] w0 _ [mSrivetref05_Memory (some ⟨g110, 0, none⟩) y108, box g78 72 ([.pointer (some ⟨g110, 0, none⟩)] ++ eSapi_Regs.enc x73.S ++ [.int .u32 x73.PC, .int .i64 x73.Status, .slice Aa102 x73.In.length cc103, .slice Aa105 x73.Out.length cc106]), rdo (eI .u32) Aa102 cc103 x73.In, own 23 (eI .u32) Aa105 cc106 x73.Out, own 75 eSmemory_Memory (some (⟨g92, 0, none⟩ : Addr)) 1 [t95], box g54 40 ([.pointer (some (⟨g92, 0, none⟩ : Addr))] ++ eSapi_Regs.enc x24.s ++ [.int .u32 x24.pc, .int .i64 x24.status, .slice Aa84 x24.in'.length cc85, .slice Aa87 x24.out.length cc88]), rdo (eI .u32) Aa84 cc85 x24.in', own 23 (eI .u32) Aa87 cc88 x24.out, box g2 28 (eSapi_Regs.enc a1.S ++ [.int .u32 a1.PC, .slice A1_1 a1.In.length c1_1])] := hw
     replace hw : St [] w0 _ [mSrivetref05_Memory (some ⟨g110, 0, none⟩) y108, box g78 72 ([.pointer (some (⟨g110, 0, none⟩ : Addr))] ++ eSapi_Regs.enc x73.S ++ [.int .u32 x73.PC, .int .i64 x73.Status, .slice Aa102 x73.In.length cc103, .slice Aa105 x73.Out.length cc106]), rdo (eI .u32) Aa102 cc103 x73.In, own 23 (eI .u32) Aa105 cc106 x73.Out, own 75 eSmemory_Memory (some (⟨g92, 0, none⟩ : Addr)) 1 [t95], box g54 40 ([.pointer (some (⟨g92, 0, none⟩ : Addr))] ++ eSapi_Regs.enc x24.s ++ [.int .u32 x24.pc, .int .i64 x24.status, .slice Aa84 x24.in'.length cc85, .slice Aa87 x24.out.length cc88]), rdo (eI .u32) Aa84 cc85 x24.in', own 23 (eI .u32) Aa87 cc88 x24.out, box g2 28 (eSapi_Regs.enc a1.S ++ [.int .u32 a1.PC, .slice A1_1 a1.In.length c1_1])] := hw
     refine go_run hs (by rfl) (x_bld (g := g78) (o := 0) (p := (⟨g78, 0, none⟩ : Addr)) (v := .pointer (some (⟨g110, 0, none⟩ : Addr))) (hw.up 1)) [44] ?_; clear hs; intro a hs
     refine go_pvs 5 [0] [(46, .slice A0 l0.length c0)] hs ?_; clear hs; intro a hs
     obtain ⟨ks111, hgks111, hstks111, hbkks111⟩ := hw.lend 1
     obtain ⟨⟨t112, t113⟩, hx114, H⟩ := bind_some H
     refine go_call hs (by rfl) (rivetref05_Memory_Place.calls ks111 (some ⟨g110, 0, none⟩) y108 0 A0 c0 l0 (t112, t113) _ hgks111 (fun wz hkz => (hr0.old (hstks111 _ hkz))) hx114) ?_
     rintro e wd115 ⟨rfl, hw116⟩
     refine ⟨_, rfl, ?_⟩
     replace hw := hbkks111 _ _ hw116
     obtain ⟨Aa117, cc118, hw⟩ := mSrivetref05_Memory.open1 hw
     replace hw : St [] w0 _ [box g110 99 [.slice Aa117 t113.B.length cc118], own 5 (eI .u8) Aa117 cc118 t113.B, box g78 72 ([.pointer (some (⟨g110, 0, none⟩ : Addr))] ++ eSapi_Regs.enc x73.S ++ [.int .u32 x73.PC, .int .i64 x73.Status, .slice Aa102 x73.In.length cc103, .slice Aa105 x73.Out.length cc106]), rdo (eI .u32) Aa102 cc103 x73.In, own 23 (eI .u32) Aa105 cc106 x73.Out, own 75 eSmemory_Memory (some (⟨g92, 0, none⟩ : Addr)) 1 [t95], box g54 40 ([.pointer (some (⟨g92, 0, none⟩ : Addr))] ++ eSapi_Regs.enc x24.s ++ [.int .u32 x24.pc, .int .i64 x24.status, .slice Aa84 x24.in'.length cc85, .slice Aa87 x24.out.length cc88]), rdo (eI .u32) Aa84 cc85 x24.in', own 23 (eI .u32) Aa87 cc88 x24.out, box g2 28 (eSapi_Regs.enc a1.S ++ [.int .u32 a1.PC, .slice A1_1 a1.In.length c1_1])] := hw
     clear hs; intro a hs; replace hs := hs.rms [45, 46, 47]
     refine go_end (hK99 _ _ ?_)
     refine go_sk fun K120 hK120 => ?_
     refine go_pvs 2 [] [(48, .pointer (some (⟨g54, 0, none⟩ : Addr))), (49, .pointer (some (⟨g2, 21, none⟩ : Addr)))] hs ?_; clear hs; intro a hs
     refine go_run hs (by rfl) (x_bld (g := g2) (o := 21) (p := (⟨g2, 21, none⟩ : Addr)) (v := .int .u32 a1.PC) (hw.up 9)) [49] ?_; clear hs; intro a hs
     refine go_pvs 4 [] [(51, .pointer (some (⟨g2, 0, none⟩ : Addr)))] hs ?_; clear hs; intro a hs
     refine go_run hs (by rfl) (x_blds (g := g2) (o := 0) (p := (⟨g2, 0, none⟩ : Addr)) (vs := (eSapi_Regs.enc a1.S)) (hw.up 9)) [51] ?_; clear hs; intro a hs
     replace hw := hw.up 5
     replace hw := St.oM_of (m := mSmemory_Memory) (A := (some (⟨g92, 0, none⟩ : Addr))) (x := t95) hw
     replace hw := hw.up 8
     replace hw := hw.up 8
     replace hw := hw.up 2
     replace hw := hw.up 8
     replace hw := mSmachine_Machine.close (x := (⟨(some t95), x24.s, x24.pc, x24.status, x24.in', x24.out⟩ : Smachine_Machine)) hw
     obtain ⟨ks121, hgks121, hstks121, hbkks121⟩ := hw.lend 1
     obtain ⟨t122, hx123, H⟩ := bind_some H
     refine go_call hs (by rfl) (machine_Machine_Start.calls ks121 (some ⟨g54, 0, none⟩) (⟨(some t95), x24.s, x24.pc, x24.status, x24.in', x24.out⟩ : Smachine_Machine) a1.PC a1.S t122 _ hgks121 hx123) ?_
     rintro e wd124 ⟨rfl, hw125⟩
     refine ⟨_, rfl, ?_⟩
     replace hw := hbkks121 _ _ hw125
     replace hw : St [] w0 wd124 [mSmachine_Machine (some ⟨g54, 0, none⟩) t122, box g110 99 [.slice Aa117 t113.B.length cc118], own 5 (eI .u8) Aa117 cc118 t113.B, box g78 72 ([.pointer (some (⟨g110, 0, none⟩ : Addr))] ++ eSapi_Regs.enc x73.S ++ [.int .u32 x73.PC, .int .i64 x73.Status, .slice Aa102 x73.In.length cc103, .slice Aa105 x73.Out.length cc106]), rdo (eI .u32) Aa102 cc103 x73.In, own 23 (eI .u32) Aa105 cc106 x73.Out, box g2 28 (eSapi_Regs.enc a1.S ++ [.int .u32 a1.PC, .slice A1_1 a1.In.length c1_1])] := hw
     clear hs; intro a hs; replace hs := hs.rms [48, 50, 52, 53]
     refine go_end (hK120 _ _ ?_)
     refine go_region ?_
     refine go_pvs 2 [] [(54, .pointer (some (⟨g78, 0, none⟩ : Addr))), (55, .pointer (some (⟨g2, 21, none⟩ : Addr)))] hs ?_; clear hs; intro a hs
     refine go_run hs (by rfl) (x_bld (g := g2) (o := 21) (p := (⟨g2, 21, none⟩ : Addr)) (v := .int .u32 a1.PC) (hw.up 6)) [55] ?_; clear hs; intro a hs
     refine go_pvs 4 [3] [(57, .pointer (some (⟨g2, 0, none⟩ : Addr)))] hs ?_; clear hs; intro a hs
     refine go_run hs (by rfl) (x_blds (g := g2) (o := 0) (p := (⟨g2, 0, none⟩ : Addr)) (vs := (eSapi_Regs.enc a1.S)) (hw.up 6)) [57] ?_; clear hs; intro a hs
     replace hw := hw.up 2
     replace hw := hw.up 2
     replace hw := mSrivetref05_Memory.close (x := t113) hw
     replace hw := St.oM_of (m := mSrivetref05_Memory) (A := (some ⟨g110, 0, none⟩)) (x := t113) hw
     replace hw := hw.up 4
     replace hw := hw.up 4
     replace hw := hw.up 2
     replace hw := hw.up 4
     replace hw := mSrivetref06_Machine.close (x := (⟨(some t113), x73.S, x73.PC, x73.Status, x73.In, x73.Out⟩ : Srivetref06_Machine)) hw
     obtain ⟨ks126, hgks126, hstks126, hbkks126⟩ := hw.lend 1
     obtain ⟨t127, hx128, H⟩ := bind_some H
     refine go_call hs (by rfl) (rivetref06_Machine_Start.calls ks126 (some ⟨g78, 0, none⟩) (⟨(some t113), x73.S, x73.PC, x73.Status, x73.In, x73.Out⟩ : Srivetref06_Machine) a1.PC a1.S t127 _ hgks126 hx128) ?_
     rintro e wd129 ⟨rfl, hw130⟩
     refine ⟨_, rfl, ?_⟩
     replace hw := hbkks126 _ _ hw130
     replace hw : St [] w0 wd129 [mSrivetref06_Machine (some ⟨g78, 0, none⟩) t127, mSmachine_Machine (some ⟨g54, 0, none⟩) t122, box g2 28 (eSapi_Regs.enc a1.S ++ [.int .u32 a1.PC, .slice A1_1 a1.In.length c1_1])] := hw
     clear hs; intro a hs; replace hs := hs.rms [54, 56, 58, 59]
     refine go_end ?_
     replace hw := hw.up 2
     replace hw := hw.up 2
     replace hw := hw.up 2
     exact hJ8 t127 t122 _ _ hs.kx hw H
    ·cases hc
   refine go_plain [] [(35, .bool true)] hs ?_; clear hs; intro a hs
   replace hw := hw.up 2
   replace hw := hw.up 2
   replace hw := hw.up 2
   exact hJ7 _ _ hs.kx hw H

end Go.Proofs.Ytheccnbamcdpmaa.T06
