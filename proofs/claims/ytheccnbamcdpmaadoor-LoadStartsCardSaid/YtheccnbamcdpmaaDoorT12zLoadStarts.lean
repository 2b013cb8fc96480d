/- YtheccnbamcdpmaaDoorT12zLoadStarts: Go functions told as plain ones, each with a proof that its call comes to what is told, part 1. Condition of each: that the plain function comes to a value. -/
import Derived.Test.YtheccnbamcdpmaaDoorT12
import Derived.Test.YtheccnbamcdpmaaDoorEP
import Derived.Test.YtheccnbamcdpmaaDoorProg
namespace Go.Proofs.YtheccnbamcdpmaaDoor.T12
open Go Go.RowKit Go.Proofs.YtheccnbamcdpmaaDoor.E
set_option linter.unusedVariables false
set_option linter.unusedSimpArgs false
structure Srivetlaw12_Parts where
  Words : List Int
  Bits : List Int
  Names : List ByteArray
structure Srivetlaw12_Where where
  Base : Int
  Mem : Int
  In : List Int
def eA48 : Enc (Vector Int 16) := ⟨16, fun x => [.int .u32 (vx 0 x 0), .int .u32 (vx 0 x 1), .int .u32 (vx 0 x 2), .int .u32 (vx 0 x 3), .int .u32 (vx 0 x 4), .int .u32 (vx 0 x 5), .int .u32 (vx 0 x 6), .int .u32 (vx 0 x 7), .int .u32 (vx 0 x 8), .int .u32 (vx 0 x 9), .int .u32 (vx 0 x 10), .int .u32 (vx 0 x 11), .int .u32 (vx 0 x 12), .int .u32 (vx 0 x 13), .int .u32 (vx 0 x 14), .int .u32 (vx 0 x 15)], (Vector.replicate 16 0), by decide, fun _ => rfl, fun x u hu => by simp at hu; rcases hu with rfl | rfl | rfl | rfl | rfl | rfl | rfl | rfl | rfl | rfl | rfl | rfl | rfl | rfl | rfl | rfl <;> rfl⟩
def okSrivetlaw12_Parts (x : Srivetlaw12_Parts) : Prop := (∀ n ∈ x.Words, In .u32 n) ∧ x.Words.length * 4 ≤ 140737488351232 ∧ (∀ n ∈ x.Bits, In .u8 n) ∧ x.Bits.length * 1 ≤ 140737488351232 ∧ (∀ n ∈ x.Names, n.size ≤ 140737488351232) ∧ x.Names.length * 16 ≤ 140737488351232
def okSrivetlaw12_Where (x : Srivetlaw12_Where) : Prop := In .i64 x.Base ∧ In .i64 x.Mem ∧ (∀ n ∈ x.In, In .u32 n) ∧ x.In.length * 4 ≤ 140737488351232
def mSrivetlaw12_Parts (A : Option Addr) (x : Srivetlaw12_Parts) : Asn := fun L => ∃ g A1 c1 A2 c2 A3 c3, A = some ⟨g, 0, none⟩ ∧ Cov [box g 26 [.slice A1 x.Words.length c1, .slice A2 x.Bits.length c2, .slice A3 x.Names.length c3], own 38 (eI .u32) A1 c1 x.Words, own 5 (eI .u8) A2 c2 x.Bits, own 9 eS A3 c3 x.Names] L
theorem mSrivetlaw12_Parts.addr {G : List Nat} {w0 w : World} {As : List Asn} {A : Option Addr} {x : Srivetlaw12_Parts} (h : St G w0 w (mSrivetlaw12_Parts A x :: As)) : ∃ g, A = some ⟨g, 0, none⟩ ∧ St G w0 w (mSrivetlaw12_Parts (some ⟨g, 0, none⟩) x :: As) := by
  have h' := h
  obtain ⟨L, ⟨L1, L2, rfl, ⟨g, A1, c1, A2, c2, A3, c3, rfl, hc⟩, hr⟩, hs⟩ := h
  exact ⟨g, rfl, h'⟩
theorem mSrivetlaw12_Parts.open {G : List Nat} {w0 w : World} {As : List Asn} {A : Option Addr} {x : Srivetlaw12_Parts} (h : St G w0 w (mSrivetlaw12_Parts A x :: As)) : ∃ g A1 c1 A2 c2 A3 c3, A = some ⟨g, 0, none⟩ ∧ St G w0 w ([box g 26 [.slice A1 x.Words.length c1, .slice A2 x.Bits.length c2, .slice A3 x.Names.length c3], own 38 (eI .u32) A1 c1 x.Words, own 5 (eI .u8) A2 c2 x.Bits, own 9 eS A3 c3 x.Names] ++ As) := by
  obtain ⟨L, ⟨L1, L2, rfl, ⟨g, A1, c1, A2, c2, A3, c3, rfl, hc⟩, hr⟩, hs⟩ := h
  exact ⟨g, A1, c1, A2, c2, A3, c3, rfl, _, Cov.join hr hc, hs⟩
theorem mSrivetlaw12_Parts.open1 {G : List Nat} {w0 w : World} {As : List Asn} {g : Nat} {x : Srivetlaw12_Parts} (h : St G w0 w (mSrivetlaw12_Parts (some ⟨g, 0, none⟩) x :: As)) : ∃ A1 c1 A2 c2 A3 c3, St G w0 w ([box g 26 [.slice A1 x.Words.length c1, .slice A2 x.Bits.length c2, .slice A3 x.Names.length c3], own 38 (eI .u32) A1 c1 x.Words, own 5 (eI .u8) A2 c2 x.Bits, own 9 eS A3 c3 x.Names] ++ As) := by
  obtain ⟨g', A1, c1, A2, c2, A3, c3, hg, h⟩ := mSrivetlaw12_Parts.open h
  cases hg
  exact ⟨A1, c1, A2, c2, A3, c3, h⟩
theorem mSrivetlaw12_Parts.close {G : List Nat} {w0 w : World} {As : List Asn} {g : Nat} {A1 : Option Addr} {c1 : Nat} {A2 : Option Addr} {c2 : Nat} {A3 : Option Addr} {c3 : Nat} {x : Srivetlaw12_Parts} (h : St G w0 w ([box g 26 [.slice A1 x.Words.length c1, .slice A2 x.Bits.length c2, .slice A3 x.Names.length c3], own 38 (eI .u32) A1 c1 x.Words, own 5 (eI .u8) A2 c2 x.Bits, own 9 eS A3 c3 x.Names] ++ As)) : St G w0 w (mSrivetlaw12_Parts (some ⟨g, 0, none⟩) x :: As) := by
  obtain ⟨L, hc, hs⟩ := h
  obtain ⟨L1, L2, rfl, h1, h2⟩ := Cov.split (Gs := [box g 26 [.slice A1 x.Words.length c1, .slice A2 x.Bits.length c2, .slice A3 x.Names.length c3], own 38 (eI .u32) A1 c1 x.Words, own 5 (eI .u8) A2 c2 x.Bits, own 9 eS A3 c3 x.Names]) hc
  exact ⟨_, ⟨L1, L2, rfl, ⟨g, A1, c1, A2, c2, A3, c3, rfl, h1⟩, h2⟩, hs⟩
def mSrivetlaw12_Where (A : Option Addr) (x : Srivetlaw12_Where) : Asn := fun L => ∃ g A1 c1, A = some ⟨g, 0, none⟩ ∧ Cov [box g 64 [.int .i64 x.Base, .int .i64 x.Mem, .slice A1 x.In.length c1], own 38 (eI .u32) A1 c1 x.In] L
theorem mSrivetlaw12_Where.addr {G : List Nat} {w0 w : World} {As : List Asn} {A : Option Addr} {x : Srivetlaw12_Where} (h : St G w0 w (mSrivetlaw12_Where A x :: As)) : ∃ g, A = some ⟨g, 0, none⟩ ∧ St G w0 w (mSrivetlaw12_Where (some ⟨g, 0, none⟩) x :: As) := by
  have h' := h
  obtain ⟨L, ⟨L1, L2, rfl, ⟨g, A1, c1, rfl, hc⟩, hr⟩, hs⟩ := h
  exact ⟨g, rfl, h'⟩
theorem mSrivetlaw12_Where.open {G : List Nat} {w0 w : World} {As : List Asn} {A : Option Addr} {x : Srivetlaw12_Where} (h : St G w0 w (mSrivetlaw12_Where A x :: As)) : ∃ g A1 c1, A = some ⟨g, 0, none⟩ ∧ St G w0 w ([box g 64 [.int .i64 x.Base, .int .i64 x.Mem, .slice A1 x.In.length c1], own 38 (eI .u32) A1 c1 x.In] ++ As) := by
  obtain ⟨L, ⟨L1, L2, rfl, ⟨g, A1, c1, rfl, hc⟩, hr⟩, hs⟩ := h
  exact ⟨g, A1, c1, rfl, _, Cov.join hr hc, hs⟩
theorem mSrivetlaw12_Where.open1 {G : List Nat} {w0 w : World} {As : List Asn} {g : Nat} {x : Srivetlaw12_Where} (h : St G w0 w (mSrivetlaw12_Where (some ⟨g, 0, none⟩) x :: As)) : ∃ A1 c1, St G w0 w ([box g 64 [.int .i64 x.Base, .int .i64 x.Mem, .slice A1 x.In.length c1], own 38 (eI .u32) A1 c1 x.In] ++ As) := by
  obtain ⟨g', A1, c1, hg, h⟩ := mSrivetlaw12_Where.open h
  cases hg
  exact ⟨A1, c1, h⟩
theorem mSrivetlaw12_Where.close {G : List Nat} {w0 w : World} {As : List Asn} {g : Nat} {A1 : Option Addr} {c1 : Nat} {x : Srivetlaw12_Where} (h : St G w0 w ([box g 64 [.int .i64 x.Base, .int .i64 x.Mem, .slice A1 x.In.length c1], own 38 (eI .u32) A1 c1 x.In] ++ As)) : St G w0 w (mSrivetlaw12_Where (some ⟨g, 0, none⟩) x :: As) := by
  obtain ⟨L, hc, hs⟩ := h
  obtain ⟨L1, L2, rfl, h1, h2⟩ := Cov.split (Gs := [box g 64 [.int .i64 x.Base, .int .i64 x.Mem, .slice A1 x.In.length c1], own 38 (eI .u32) A1 c1 x.In]) hc
  exact ⟨_, ⟨L1, L2, rfl, ⟨g, A1, c1, rfl, h1⟩, h2⟩, hs⟩
/-! rivet/rivetlaw12.LoadStarts: function 6 -/
noncomputable def rivetlaw12_LoadStarts.j1 : Option Bool := some false
noncomputable def rivetlaw12_LoadStarts.j2 : Option Bool := some false
noncomputable def rivetlaw12_LoadStarts.j3 : Option Bool := some false
noncomputable def rivetlaw12_LoadStarts.j6 (v238 : Bool) : Option Bool := some v238
noncomputable def rivetlaw12_LoadStarts.j5 (y41 : Int) (y43 : Int) (x53 : Smachine_Machine) (v137 : Smachine_Machine) : Option Bool := ((machine_Machine_Start v137 (wu32 y41) ({ ({ (⟨(Vector.replicate 16 0), 0, false, false, false, false⟩ : Sapi_Regs) with R := vset (Vector.replicate 16 0) 13 (wu32 y41) } : Sapi_Regs) with R := vset (vset (Vector.replicate 16 0) 13 (wu32 y41)) 14 (wu32 (w64 (4 * y43))) } : Sapi_Regs)).bind fun t153 => (((x53.Memory).bind fun y166 => (((t153.Memory).bind fun y177 => (((memory_Memory_Words y166).bind fun t181 => (((memory_Memory_Words y177).bind fun t189 => (((rivetref05_Same t181 t189).bind fun t197 => ((if t197 = true then ((machine_Machine_PC x53).bind fun t203 => (((machine_Machine_PC t153).bind fun t208 => ((if t203 = t208 then ((machine_Machine_Regs x53).bind fun t214 => (((machine_Machine_Regs t153).bind fun t219 => ((if ((decide (t214.R = t219.R)) && ((t214.H == t219.H) && ((t214.N == t219.N) && ((t214.Z == t219.Z) && ((t214.C == t219.C) && ((t214.V == t219.V) && true)))))) = true then ((machine_Machine_Status x53).bind fun t225 => ((if t225 = 0 then ((machine_Machine_Out x53).bind fun t231 => (rivetlaw12_LoadStarts.j6 ((t231.length : Int) == 0))) else rivetlaw12_LoadStarts.j6 false))) else rivetlaw12_LoadStarts.j6 false))))) else rivetlaw12_LoadStarts.j6 false))))) else rivetlaw12_LoadStarts.j6 false)))))))))))))
noncomputable def rivetlaw12_LoadStarts.j4 (y41 : Int) (y43 : Int) (x53 : Smachine_Machine) (v132 : Smachine_Machine) (v133 : Bool) : Option Bool := (if v133 = true then some false else rivetlaw12_LoadStarts.j5 y41 y43 x53 v132)
noncomputable def rivetlaw12_LoadStarts (a0 : Srivetlaw12_Parts) (a1 : Srivetlaw12_Where) : Option Bool := ((rivetlaw12_shown).bind fun t12 => (((rivetref09_Fit a0.Words a0.Bits a0.Names).bind fun t18 => ((nm (w64 (4 * (band .i64 a1.Base 31))) fun y41 => (nm (w64 ((w64 ((w64 (y41.tdiv 4)) + (t18.Words.length : Int))) + (band .i64 a1.Mem 15))) fun y43 => ((load_Machine t18 y41 y43 ([] : List Int)).bind fun ⟨t46, t47⟩ => ((match t46 with | none => ((load_Image t18 y41).bind fun ⟨t56, t57⟩ => (((machine_New y43 ([] : List Int)).bind fun ⟨t66, t67⟩ => ((match t66 with | none => (if t12 = true then rivetlaw12_LoadStarts.j1 else rivetlaw12_LoadStarts.j1) | some x73 => (if t12 = true then rivetlaw12_LoadStarts.j2 else rivetlaw12_LoadStarts.j2)))))) | some x53 => ((load_Image t18 y41).bind fun ⟨t86, t87⟩ => (((machine_New y43 ([] : List Int)).bind fun ⟨t96, t97⟩ => ((match t96 with | none => (if t12 = true then rivetlaw12_LoadStarts.j3 else rivetlaw12_LoadStarts.j3) | some x103 => (if t12 = true then (if t47 = 0 then (if t87 = 0 then (if t97 = 0 then ((x103.Memory).bind fun y123 => (((memory_Memory_Place y123 (w64 (y41.tdiv 4)) t86).bind fun ⟨t127, t128⟩ => (rivetlaw12_LoadStarts.j4 y41 y43 x53 (⟨(some t128), x103.s, x103.pc, x103.status, x103.in', x103.out⟩ : Smachine_Machine) (t127 != 0))))) else rivetlaw12_LoadStarts.j4 y41 y43 x53 x103 true) else rivetlaw12_LoadStarts.j4 y41 y43 x53 x103 true) else rivetlaw12_LoadStarts.j4 y41 y43 x53 x103 true) else rivetlaw12_LoadStarts.j4 y41 y43 x53 x103 true)))))))))))))))
set_option maxRecDepth 100000 in
set_option maxHeartbeats 4000000 in
theorem rivetlaw12_LoadStarts.calls (a0 : Srivetlaw12_Parts) (A0_1 : Option Addr) (c0_1 : Nat) (A0_2 : Option Addr) (c0_2 : Nat) (A0_3 : Option Addr) (c0_3 : Nat) (a1 : Srivetlaw12_Where) (A1_1 : Option Addr) (c1_1 : Nat) (r : Bool) (w0 : World) (hr0_1 : Rd w0 (eI .u32) A0_1 c0_1 a0.Words) (hr0_2 : Rd w0 (eI .u8) A0_2 c0_2 a0.Bits) (hr0_3 : Rd w0 eS A0_3 c0_3 a0.Names) (hr1_1 : Rd w0 (eI .u32) A1_1 c1_1 a1.In) (H : rivetlaw12_LoadStarts a0 a1 = some r) :
    Calls Tryd.prog 6 #[.agg #[.slice A0_1 a0.Words.length c0_1, .slice A0_2 a0.Bits.length c0_2, .slice A0_3 a0.Names.length c0_3], .agg #[.int .i64 a1.Base, .int .i64 a1.Mem, .slice A1_1 a1.In.length c1_1]] w0 fun e w' => e = .returned (.bool r) ∧ St [] w0 w' [] := by
 have hw : St [] w0 w0 [] := St.nil w0
 unfold rivetlaw12_LoadStarts at H
 refine go_fn Tryd.func6 rfl Tryd.ntmps6 ?_; intro a hs
 refine go_sk fun K1 hK1 => ?_
 obtain ⟨g2, wd3, hx4, hw⟩ := x_boxc (P := Tryd.prog) (elem := 26) (v := (Operand.tmp 0)) (ty := 0) (cs := [.slice A0_1 a0.Words.length c0_1, .slice A0_2 a0.Bits.length c0_2, .slice A0_3 a0.Names.length c0_3]) hs hw (by kernel_rfl)
 refine go_run hs (by rfl) hx4 [0] ?_; clear hs; intro a hs
 obtain ⟨g6, wd7, hx8, hw⟩ := x_boxc (P := Tryd.prog) (elem := 64) (v := (Operand.tmp 1)) (ty := 0) (cs := [.int .i64 a1.Base, .int .i64 a1.Mem, .slice A1_1 a1.In.length c1_1]) hs hw (by kernel_rfl)
 refine go_run hs (by rfl) hx8 [1] ?_; clear hs; intro a hs
 refine go_pvs 3 [] [] hs ?_; clear hs; intro a hs
 refine go_end (hK1 _ _ ?_)
 refine go_sk fun K10 hK10 => ?_
 obtain ⟨t12, hx13, H⟩ := bind_some H
 refine go_call hs (by rfl) (rivetlaw12_shown.calls t12 _ hx13) ?_
 rintro e wd14 ⟨rfl, hw15⟩
 refine ⟨_, rfl, ?_⟩
 replace hw := hw.call hw15
 clear hs; intro a hs
 refine go_pvs 2 [16] [(5, .bool t12)] hs ?_; clear hs; intro a hs
 refine go_end (hK10 _ _ ?_)
 refine go_sk fun K16 hK16 => ?_
 refine go_pvs 1 [] [(17, .pointer (some (⟨g2, 0, none⟩ : Addr)))] hs ?_; clear hs; intro a hs
 refine go_run hs (by rfl) (x_bld (g := g2) (o := 0) (p := (⟨g2, 0, none⟩ : Addr)) (v := .slice A0_1 a0.Words.length c0_1) (hw.up 1)) [17] ?_; clear hs; intro a hs
 refine go_pvs 3 [] [(19, .pointer (some (⟨g2, 1, none⟩ : Addr)))] hs ?_; clear hs; intro a hs
 refine go_run hs (by rfl) (x_bld (g := g2) (o := 1) (p := (⟨g2, 1, none⟩ : Addr)) (v := .slice A0_2 a0.Bits.length c0_2) (hw.up 1)) [19] ?_; clear hs; intro a hs
 refine go_pvs 5 [2] [(21, .pointer (some (⟨g2, 2, none⟩ : Addr)))] hs ?_; clear hs; intro a hs
 refine go_run hs (by rfl) (x_bld (g := g2) (o := 2) (p := (⟨g2, 2, none⟩ : Addr)) (v := .slice A0_3 a0.Names.length c0_3) (hw.up 1)) [21] ?_; clear hs; intro a hs
 obtain ⟨t18, hx19, H⟩ := bind_some H
 refine go_call hs (by rfl) (rivetref09_Fit.calls A0_1 c0_1 a0.Words A0_2 c0_2 a0.Bits A0_3 c0_3 a0.Names t18 _ (hr0_1.old hw) (hr0_2.old hw) (hr0_3.old hw) hx19) ?_
 rintro e wd26 ⟨Aa20, cc21, Aa22, cc23, Aa24, cc25, rfl, hw27⟩
 refine ⟨_, rfl, ?_⟩
 replace hw := hw.call hw27
 clear hs; intro a hs; replace hs := hs.rms [18, 20, 22]
 obtain ⟨g31, wd32, hx33, hw⟩ := x_allocc (P := Tryd.prog) (elem := 32) (ty := 0) (z := .agg #[.slice none 0 0, .slice none 0 0, .slice none 0 0]) (cs := [.slice none 0 0, .slice none 0 0, .slice none 0 0]) hs hw (by kernel_rfl) (by kernel_rfl)
 refine go_run hs (by rfl) hx33 [] ?_; clear hs; intro a hs
 replace hw := St.own_nil hw 38 (eI .u32)
 replace hw := St.own_nil hw 3 (eI .i64)
 replace hw := St.own_nil hw 72 eSapi_Sym
 replace hw : St [] w0 wd32 [own 72 eSapi_Sym none 0 ([] : List Sapi_Sym), own 3 (eI .i64) none 0 ([] : List Int), own 38 (eI .u32) none 0 ([] : List Int), box g31 32 [.slice none ([] : List Int).length 0, .slice none ([] : List Int).length 0, .slice none ([] : List Sapi_Sym).length 0], own 38 (eI .u32) Aa20 cc21 t18.Words, own 3 (eI .i64) Aa22 cc23 t18.Sites, own 72 eSapi_Sym Aa24 cc25 t18.Syms, box g6 64 [.int .i64 a1.Base, .int .i64 a1.Mem, .slice A1_1 a1.In.length c1_1], box g2 26 [.slice A0_1 a0.Words.length c0_1, .slice A0_2 a0.Bits.length c0_2, .slice A0_3 a0.Names.length c0_3]] := hw
 replace hw := hw.up 3
 obtain ⟨wd38, hx39, hw⟩ := x_bput (P := Tryd.prog) (ty := 0) (t := 32) (y := (Operand.tmp 6)) (z := (Operand.tmp 23)) (o := 0) (p := (⟨g31, 0, none⟩ : Addr)) (v := .agg #[.slice Aa20 t18.Words.length cc21, .slice Aa22 t18.Sites.length cc23, .slice Aa24 t18.Syms.length cc25]) (vs := [.slice Aa20 t18.Words.length cc21, .slice Aa22 t18.Sites.length cc23, .slice Aa24 t18.Syms.length cc25]) (cs' := [.slice Aa20 t18.Words.length cc21, .slice Aa22 t18.Sites.length cc23, .slice Aa24 t18.Syms.length cc25]) hs hw (by kernel_rfl) rfl (by kernel_rfl) rfl (by kernel_rfl) (by kernel_rfl) (by simp [Value.oneCell']) rfl
 refine go_unit hs (by rfl) hx39 [23] ?_; clear hs; intro a hs
 refine go_end (hK16 _ _ ?_)
 refine go_sk fun K40 hK40 => ?_
 refine go_pvs 1 [] [(24, .pointer (some (⟨g6, 0, none⟩ : Addr)))] hs ?_; clear hs; intro a hs
 refine go_run hs (by rfl) (x_bld (g := g6) (o := 0) (p := (⟨g6, 0, none⟩ : Addr)) (v := .int .i64 a1.Base) (hw.up 7)) [24] ?_; clear hs; intro a hs
 refine go_pvs 5 [25] [(7, .int .i64 (w64 (4 * (band .i64 a1.Base 31))))] hs ?_; clear hs; intro a hs
 obtain ⟨y41, hy41, H⟩ := nm_some H
 replace hs : Slots a 140 [(3, .pointer (some (⟨g6, 0, none⟩ : Addr))), (5, .bool t12), (6, .pointer (some (⟨g31, 0, none⟩ : Addr))), (7, .int .i64 y41)] := by rw [hy41]; exact hs.kx
 refine go_end (hK40 _ _ ?_)
 refine go_sk fun K42 hK42 => ?_
 refine go_pvs 3 [] [(29, .int .i64 (w64 (y41.tdiv 4))), (30, .pointer (some (⟨g31, 0, none⟩ : Addr)))] hs ?_; clear hs; intro a hs
 refine go_run hs (by rfl) (x_bld (g := g31) (o := 0) (p := (⟨g31, 0, none⟩ : Addr)) (v := .slice Aa20 t18.Words.length cc21) (hw.up 0)) [30] ?_; clear hs; intro a hs
 refine go_pvs 7 [3, 29, 31] [(33, .int .i64 (w64 ((w64 (y41.tdiv 4)) + (t18.Words.length : Int)))), (34, .pointer (some (⟨g6, 1, none⟩ : Addr)))] hs ?_; clear hs; intro a hs
 refine go_run hs (by rfl) (x_bld (g := g6) (o := 1) (p := (⟨g6, 1, none⟩ : Addr)) (v := .int .i64 a1.Mem) (hw.up 7)) [34] ?_; clear hs; intro a hs
 refine go_pvs 11 [33, 35] [(8, .int .i64 (w64 ((w64 ((w64 (y41.tdiv 4)) + (t18.Words.length : Int))) + (band .i64 a1.Mem 15))))] hs ?_; clear hs; intro a hs
 obtain ⟨y43, hy43, H⟩ := nm_some H
 replace hs : Slots a 140 [(5, .bool t12), (6, .pointer (some (⟨g31, 0, none⟩ : Addr))), (7, .int .i64 y41), (8, .int .i64 y43)] := by rw [hy43]; exact hs.kx
 refine go_end (hK42 _ _ ?_)
 refine go_sk fun K44 hK44 => ?_
 refine go_run hs (by rfl) (x_blds (g := g31) (o := 0) (p := (⟨g31, 0, none⟩ : Addr)) (vs := [.slice Aa20 t18.Words.length cc21, .slice Aa22 t18.Sites.length cc23, .slice Aa24 t18.Syms.length cc25]) (hw.up 0)) [] ?_; clear hs; intro a hs
 refine go_pvs 3 [] [(40, .int .i64 y41), (41, .int .i64 y43)] hs ?_; clear hs; intro a hs
 obtain ⟨⟨t46, t47⟩, hx48, H⟩ := bind_some H
 refine go_call hs (by rfl) (load_Machine.calls t18 Aa20 cc21 Aa22 cc23 Aa24 cc25 y41 y43 none 0 ([] : List Int) (t46, t47) _ (Rd.of_own (hw.up 4)) (Rd.of_own (hw.up 5)) (Rd.of_own (hw.up 6)) (Rd.nil _ _) hx48) ?_
 rintro e wd50 ⟨Aa49, rfl, hw51⟩
 refine ⟨_, rfl, ?_⟩
 replace hw := hw.call hw51
 clear hs; intro a hs; replace hs := hs.rms [39, 40, 41]
 rcases t46 with _ | x53
 ·obtain ⟨hAg, hwg⟩ := St.oM_none hw
  clear hw; subst hAg; have hw := hwg; clear hwg
  refine go_pvs 9 [42] [(9, .pointer none), (10, .int .i64 t47)] hs ?_; clear hs; intro a hs
  refine go_end (hK44 _ _ ?_)
  refine go_sk fun K54 hK54 => ?_
  refine go_run hs (by rfl) (x_blds (g := g31) (o := 0) (p := (⟨g31, 0, none⟩ : Addr)) (vs := [.slice Aa20 t18.Words.length cc21, .slice Aa22 t18.Sites.length cc23, .slice Aa24 t18.Syms.length cc25]) (hw.up 0)) [6] ?_; clear hs; intro a hs
  refine go_pvs 2 [] [(47, .int .i64 y41)] hs ?_; clear hs; intro a hs
  obtain ⟨⟨t56, t57⟩, hx58, H⟩ := bind_some H
  refine go_call hs (by rfl) (load_Image.calls t18 Aa20 cc21 Aa22 cc23 Aa24 cc25 y41 (t56, t57) _ (Rd.of_own (hw.up 4)) (Rd.of_own (hw.up 5)) (Rd.of_own (hw.up 6)) hx58) ?_
  rintro e wd61 ⟨Aa59, cc60, rfl, hw62⟩
  refine ⟨_, rfl, ?_⟩
  replace hw := hw.call hw62
  clear hs; intro a hs; replace hs := hs.rms [46, 47]
  refine go_pvs 8 [48] [(11, .slice Aa59 t56.length cc60), (12, .int .i64 t57)] hs ?_; clear hs; intro a hs
  refine go_end (hK54 _ _ ?_)
  refine go_sk fun K64 hK64 => ?_
  refine go_pvs 1 [] [(52, .int .i64 y43)] hs ?_; clear hs; intro a hs
  obtain ⟨⟨t66, t67⟩, hx68, H⟩ := bind_some H
  refine go_call hs (by rfl) (machine_New.calls y43 none 0 ([] : List Int) (t66, t67) _ (Rd.nil _ _) hx68) ?_
  rintro e wd70 ⟨Aa69, rfl, hw71⟩
  refine ⟨_, rfl, ?_⟩
  replace hw := hw.call hw71
  clear hs; intro a hs; replace hs := hs.rms [52]
  rcases t66 with _ | x73
  ·obtain ⟨hAg, hwg⟩ := St.oM_none hw
   clear hw; subst hAg; have hw := hwg; clear hwg
   refine go_pvs 7 [53] [(13, .pointer none), (14, .int .i64 t67)] hs ?_; clear hs; intro a hs
   refine go_end (hK64 _ _ ?_)
   refine go_seq_k fun K74 hK74 => ?_
   refine go_seq_k fun K75 hK75 => ?_
   have hJ1 : ∀ (a : Act) (w : World), Slots a 140 [(7, .int .i64 y41), (8, .int .i64 y43), (9, .pointer none), (13, .pointer none), (88, .bool true)] → St [] w0 w [own 38 (eI .u32) Aa59 cc60 t56, box g31 32 [.slice Aa20 t18.Words.length cc21, .slice Aa22 t18.Sites.length cc23, .slice Aa24 t18.Syms.length cc25], own 72 eSapi_Sym none 0 ([] : List Sapi_Sym), own 3 (eI .i64) none 0 ([] : List Int), own 38 (eI .u32) none 0 ([] : List Int), own 38 (eI .u32) Aa20 cc21 t18.Words, own 3 (eI .i64) Aa22 cc23 t18.Sites, own 72 eSapi_Sym Aa24 cc25 t18.Syms, box g6 64 [.int .i64 a1.Base, .int .i64 a1.Mem, .slice A1_1 a1.In.length c1_1], box g2 26 [.slice A0_1 a0.Words.length c0_1, .slice A0_2 a0.Bits.length c0_2, .slice A0_3 a0.Names.length c0_3]] → rivetlaw12_LoadStarts.j1 = some r → K75 a w := by
    intro a w hs hw H
    unfold rivetlaw12_LoadStarts.j1 at H
    refine hK75 _ _ ?_
    refine go_cond hs true (fun hc => ?_) fun hc => ?_
    ·skip
     refine go_sp [7, 8, 9, 13, 88] [(4, .bool false)] hs ?_; clear hs; intro a hs
     refine wp_ret ?_
     refine th_ret ?_
     obtain rfl := Option.some.inj H
     refine ret1 (t := 4) (v := .bool false) hs (by kernel_rfl) (by kernel_rfl) ?_
     exact ⟨rfl, hw.only 0⟩
    ·cases hc
   refine go_region ?_
   refine go_pvs 3 [5] [(58, .bool (!t12))] hs ?_; clear hs; intro a hs
   cases hb76 : (!t12)
   ·replace H := ite_t H (nf hb76)
    rw [hb76] at hs
    refine go_pvs 33 [10, 11, 12, 14, 58] [(88, .bool true)] hs ?_; clear hs; intro a hs
    refine go_end ?_
    replace hw := hw.up 9
    replace hw := hw.up 9
    replace hw := hw.up 9
    replace hw := hw.up 9
    replace hw := hw.up 9
    replace hw := hw.up 9
    replace hw := hw.up 9
    replace hw := hw.up 9
    replace hw := hw.up 9
    replace hw := hw.up 9
    exact hJ1 _ _ hs.kx hw H
   ·replace H := ite_f H (ff (nt hb76))
    rw [hb76] at hs
    refine go_pvs 33 [10, 11, 12, 14, 58] [(88, .bool true)] hs ?_; clear hs; intro a hs
    refine go_end ?_
    replace hw := hw.up 9
    replace hw := hw.up 9
    replace hw := hw.up 9
    replace hw := hw.up 9
    replace hw := hw.up 9
    replace hw := hw.up 9
    replace hw := hw.up 9
    replace hw := hw.up 9
    replace hw := hw.up 9
    replace hw := hw.up 9
    exact hJ1 _ _ hs.kx hw H
  ·replace hw : St [] w0 _ [mSmachine_Machine Aa69 x73, own 38 (eI .u32) Aa59 cc60 t56, box g31 32 [.slice Aa20 t18.Words.length cc21, .slice Aa22 t18.Sites.length cc23, .slice Aa24 t18.Syms.length cc25], own 72 eSapi_Sym none 0 ([] : List Sapi_Sym), own 3 (eI .i64) none 0 ([] : List Int), own 38 (eI .u32) none 0 ([] : List Int), own 38 (eI .u32) Aa20 cc21 t18.Words, own 3 (eI .i64) Aa22 cc23 t18.Sites, own 72 eSapi_Sym Aa24 cc25 t18.Syms, box g6 64 [.int .i64 a1.Base, .int .i64 a1.Mem, .slice A1_1 a1.In.length c1_1], box g2 26 [.slice A0_1 a0.Words.length c0_1, .slice A0_2 a0.Bits.length c0_2, .slice A0_3 a0.Names.length c0_3]] := hw
   obtain ⟨g78, hAg, hwg⟩ := mSmachine_Machine.addr hw
   clear hw; subst hAg; have hw := hwg; clear hwg
   replace hw : St [] w0 _ [mSmachine_Machine (some ⟨g78, 0, none⟩) x73, own 38 (eI .u32) Aa59 cc60 t56, box g31 32 [.slice Aa20 t18.Words.length cc21, .slice Aa22 t18.Sites.length cc23, .slice Aa24 t18.Syms.length cc25], own 72 eSapi_Sym none 0 ([] : List Sapi_Sym), own 3 (eI .i64) none 0 ([] : List Int), own 38 (eI .u32) none 0 ([] : List Int), own 38 (eI .u32) Aa20 cc21 t18.Words, own 3 (eI .i64) Aa22 cc23 t18.Sites, own 72 eSapi_Sym Aa24 cc25 t18.Syms, box g6 64 [.int .i64 a1.Base, .int .i64 a1.Mem, .slice A1_1 a1.In.length c1_1], box g2 26 [.slice A0_1 a0.Words.length c0_1, .slice A0_2 a0.Bits.length c0_2, .slice A0_3 a0.Names.length c0_3]] := hw
   refine go_pvs 7 [53] [(13, .pointer (some (⟨g78, 0, none⟩ : Addr))), (14, .int .i64 t67)] hs ?_; clear hs; intro a hs
   refine go_end (hK64 _ _ ?_)
   refine go_seq_k fun K79 hK79 => ?_
   refine go_seq_k fun K80 hK80 => ?_
   have hJ2 : ∀ (a : Act) (w : World), Slots a 140 [(7, .int .i64 y41), (8, .int .i64 y43), (9, .pointer none), (13, .pointer (some (⟨g78, 0, none⟩ : Addr))), (88, .bool true)] → St [] w0 w [mSmachine_Machine (some ⟨g78, 0, none⟩) x73, own 38 (eI .u32) Aa59 cc60 t56, box g31 32 [.slice Aa20 t18.Words.length cc21, .slice Aa22 t18.Sites.length cc23, .slice Aa24 t18.Syms.length cc25], own 72 eSapi_Sym none 0 ([] : List Sapi_Sym), own 3 (eI .i64) none 0 ([] : List Int), own 38 (eI .u32) none 0 ([] : List Int), own 38 (eI .u32) Aa20 cc21 t18.Words, own 3 (eI .i64) Aa22 cc23 t18.Sites, own 72 eSapi_Sym Aa24 cc25 t18.Syms, box g6 64 [.int .i64 a1.Base, .int .i64 a1.Mem, .slice A1_1 a1.In.length c1_1], box g2 26 [.slice A0_1 a0.Words.length c0_1, .slice A0_2 a0.Bits.length c0_2, .slice A0_3 a0.Names.length c0_3]] → rivetlaw12_LoadStarts.j2 = some r → K80 a w := by
    intro a w hs hw H
    unfold rivetlaw12_LoadStarts.j2 at H
    refine hK80 _ _ ?_
    refine go_cond hs true (fun hc => ?_) fun hc => ?_
    ·skip
     refine go_sp [7, 8, 9, 13, 88] [(4, .bool false)] hs ?_; clear hs; intro a hs
     refine wp_ret ?_
     refine th_ret ?_
     obtain rfl := Option.some.inj H
     refine ret1 (t := 4) (v := .bool false) hs (by kernel_rfl) (by kernel_rfl) ?_
     exact ⟨rfl, hw.only 0⟩
    ·cases hc
   refine go_region ?_
   refine go_pvs 3 [5] [(58, .bool (!t12))] hs ?_; clear hs; intro a hs
   cases hb81 : (!t12)
   ·replace H := ite_t H (nf hb81)
    rw [hb81] at hs
    refine go_pvs 33 [10, 11, 12, 14, 58] [(88, .bool true)] hs ?_; clear hs; intro a hs
    refine go_end ?_
    replace hw := hw.up 10
    replace hw := hw.up 10
    replace hw := hw.up 10
    replace hw := hw.up 10
    replace hw := hw.up 10
    replace hw := hw.up 10
    replace hw := hw.up 10
    replace hw := hw.up 10
    replace hw := hw.up 10
    replace hw := hw.up 10
    replace hw := hw.up 10
    exact hJ2 _ _ hs.kx hw H
   ·replace H := ite_f H (ff (nt hb81))
    rw [hb81] at hs
    refine go_pvs 33 [10, 11, 12, 14, 58] [(88, .bool true)] hs ?_; clear hs; intro a hs
    refine go_end ?_
    replace hw := hw.up 10
    replace hw := hw.up 10
    replace hw := hw.up 10
    replace hw := hw.up 10
    replace hw := hw.up 10
    replace hw := hw.up 10
    replace hw := hw.up 10
    replace hw := hw.up 10
    replace hw := hw.up 10
    replace hw := hw.up 10
    replace hw := hw.up 10
    exact hJ2 _ _ hs.kx hw H
 ·replace hw : St [] w0 _ [mSmachine_Machine Aa49 x53, box g31 32 [.slice Aa20 t18.Words.length cc21, .slice Aa22 t18.Sites.length cc23, .slice Aa24 t18.Syms.length cc25], own 72 eSapi_Sym none 0 ([] : List Sapi_Sym), own 3 (eI .i64) none 0 ([] : List Int), own 38 (eI .u32) none 0 ([] : List Int), own 38 (eI .u32) Aa20 cc21 t18.Words, own 3 (eI .i64) Aa22 cc23 t18.Sites, own 72 eSapi_Sym Aa24 cc25 t18.Syms, box g6 64 [.int .i64 a1.Base, .int .i64 a1.Mem, .slice A1_1 a1.In.length c1_1], box g2 26 [.slice A0_1 a0.Words.length c0_1, .slice A0_2 a0.Bits.length c0_2, .slice A0_3 a0.Names.length c0_3]] := hw
  obtain ⟨g83, hAg, hwg⟩ := mSmachine_Machine.addr hw
  clear hw; subst hAg; have hw := hwg; clear hwg
  replace hw : St [] w0 _ [mSmachine_Machine (some ⟨g83, 0, none⟩) x53, box g31 32 [.slice Aa20 t18.Words.length cc21, .slice Aa22 t18.Sites.length cc23, .slice Aa24 t18.Syms.length cc25], own 72 eSapi_Sym none 0 ([] : List Sapi_Sym), own 3 (eI .i64) none 0 ([] : List Int), own 38 (eI .u32) none 0 ([] : List Int), own 38 (eI .u32) Aa20 cc21 t18.Words, own 3 (eI .i64) Aa22 cc23 t18.Sites, own 72 eSapi_Sym Aa24 cc25 t18.Syms, box g6 64 [.int .i64 a1.Base, .int .i64 a1.Mem, .slice A1_1 a1.In.length c1_1], box g2 26 [.slice A0_1 a0.Words.length c0_1, .slice A0_2 a0.Bits.length c0_2, .slice A0_3 a0.Names.length c0_3]] := hw
  refine go_pvs 9 [42] [(9, .pointer (some (⟨g83, 0, none⟩ : Addr))), (10, .int .i64 t47)] hs ?_; clear hs; intro a hs
  refine go_end (hK44 _ _ ?_)
  refine go_sk fun K84 hK84 => ?_
  refine go_run hs (by rfl) (x_blds (g := g31) (o := 0) (p := (⟨g31, 0, none⟩ : Addr)) (vs := [.slice Aa20 t18.Words.length cc21, .slice Aa22 t18.Sites.length cc23, .slice Aa24 t18.Syms.length cc25]) (hw.up 1)) [6] ?_; clear hs; intro a hs
  refine go_pvs 2 [] [(47, .int .i64 y41)] hs ?_; clear hs; intro a hs
  obtain ⟨⟨t86, t87⟩, hx88, H⟩ := bind_some H
  refine go_call hs (by rfl) (load_Image.calls t18 Aa20 cc21 Aa22 cc23 Aa24 cc25 y41 (t86, t87) _ (Rd.of_own (hw.up 5)) (Rd.of_own (hw.up 6)) (Rd.of_own (hw.up 7)) hx88) ?_
  rintro e wd91 ⟨Aa89, cc90, rfl, hw92⟩
  refine ⟨_, rfl, ?_⟩
  replace hw := hw.call hw92
  clear hs; intro a hs; replace hs := hs.rms [46, 47]
  refine go_pvs 8 [48] [(11, .slice Aa89 t86.length cc90), (12, .int .i64 t87)] hs ?_; clear hs; intro a hs
  refine go_end (hK84 _ _ ?_)
  refine go_sk fun K94 hK94 => ?_
  refine go_pvs 1 [] [(52, .int .i64 y43)] hs ?_; clear hs; intro a hs
  obtain ⟨⟨t96, t97⟩, hx98, H⟩ := bind_some H
  refine go_call hs (by rfl) (machine_New.calls y43 none 0 ([] : List Int) (t96, t97) _ (Rd.nil _ _) hx98) ?_
  rintro e wd100 ⟨Aa99, rfl, hw101⟩
  refine ⟨_, rfl, ?_⟩
  replace hw := hw.call hw101
  clear hs; intro a hs; replace hs := hs.rms [52]
  rcases t96 with _ | x103
  ·obtain ⟨hAg, hwg⟩ := St.oM_none hw
   clear hw; subst hAg; have hw := hwg; clear hwg
   refine go_pvs 7 [53] [(13, .pointer none), (14, .int .i64 t97)] hs ?_; clear hs; intro a hs
   refine go_end (hK94 _ _ ?_)
   refine go_seq_k fun K104 hK104 => ?_
   refine go_seq_k fun K105 hK105 => ?_
   have hJ3 : ∀ (a : Act) (w : World), Slots a 140 [(7, .int .i64 y41), (8, .int .i64 y43), (9, .pointer (some (⟨g83, 0, none⟩ : Addr))), (13, .pointer none), (88, .bool true)] → St [] w0 w [own 38 (eI .u32) Aa89 cc90 t86, mSmachine_Machine (some ⟨g83, 0, none⟩) x53, box g31 32 [.slice Aa20 t18.Words.length cc21, .slice Aa22 t18.Sites.length cc23, .slice Aa24 t18.Syms.length cc25], own 72 eSapi_Sym none 0 ([] : List Sapi_Sym), own 3 (eI .i64) none 0 ([] : List Int), own 38 (eI .u32) none 0 ([] : List Int), own 38 (eI .u32) Aa20 cc21 t18.Words, own 3 (eI .i64) Aa22 cc23 t18.Sites, own 72 eSapi_Sym Aa24 cc25 t18.Syms, box g6 64 [.int .i64 a1.Base, .int .i64 a1.Mem, .slice A1_1 a1.In.length c1_1], box g2 26 [.slice A0_1 a0.Words.length c0_1, .slice A0_2 a0.Bits.length c0_2, .slice A0_3 a0.Names.length c0_3]] → rivetlaw12_LoadStarts.j3 = some r → K105 a w := by
    intro a w hs hw H
    unfold rivetlaw12_LoadStarts.j3 at H
    refine hK105 _ _ ?_
    refine go_cond hs true (fun hc => ?_) fun hc => ?_
    ·skip
     refine go_sp [7, 8, 9, 13, 88] [(4, .bool false)] hs ?_; clear hs; intro a hs
     refine wp_ret ?_
     refine th_ret ?_
     obtain rfl := Option.some.inj H
     refine ret1 (t := 4) (v := .bool false) hs (by kernel_rfl) (by kernel_rfl) ?_
     exact ⟨rfl, hw.only 0⟩
    ·cases hc
   refine go_region ?_
   refine go_pvs 3 [5] [(58, .bool (!t12))] hs ?_; clear hs; intro a hs
   cases hb106 : (!t12)
   ·replace H := ite_t H (nf hb106)
    rw [hb106] at hs
    refine go_pvs 33 [10, 11, 12, 14, 58] [(88, .bool true)] hs ?_; clear hs; intro a hs
    refine go_end ?_
    replace hw := hw.up 10
    replace hw := hw.up 10
    replace hw := hw.up 10
    replace hw := hw.up 10
    replace hw := hw.up 10
    replace hw := hw.up 10
    replace hw := hw.up 10
    replace hw := hw.up 10
    replace hw := hw.up 10
    replace hw := hw.up 10
    replace hw := hw.up 10
    exact hJ3 _ _ hs.kx hw H
   ·replace H := ite_f H (ff (nt hb106))
    rw [hb106] at hs
    refine go_pvs 33 [10, 11, 12, 14, 58] [(88, .bool true)] hs ?_; clear hs; intro a hs
    refine go_end ?_
    replace hw := hw.up 10
    replace hw := hw.up 10
    replace hw := hw.up 10
    replace hw := hw.up 10
    replace hw := hw.up 10
    replace hw := hw.up 10
    replace hw := hw.up 10
    replace hw := hw.up 10
    replace hw := hw.up 10
    replace hw := hw.up 10
    replace hw := hw.up 10
    exact hJ3 _ _ hs.kx hw H
  ·replace hw : St [] w0 _ [mSmachine_Machine Aa99 x103, own 38 (eI .u32) Aa89 cc90 t86, mSmachine_Machine (some ⟨g83, 0, none⟩) x53, box g31 32 [.slice Aa20 t18.Words.length cc21, .slice Aa22 t18.Sites.length cc23, .slice Aa24 t18.Syms.length cc25], own 72 eSapi_Sym none 0 ([] : List Sapi_Sym), own 3 (eI .i64) none 0 ([] : List Int), own 38 (eI .u32) none 0 ([] : List Int), own 38 (eI .u32) Aa20 cc21 t18.Words, own 3 (eI .i64) Aa22 cc23 t18.Sites, own 72 eSapi_Sym Aa24 cc25 t18.Syms, box g6 64 [.int .i64 a1.Base, .int .i64 a1.Mem, .slice A1_1 a1.In.length c1_1], box g2 26 [.slice A0_1 a0.Words.length c0_1, .slice A0_2 a0.Bits.length c0_2, .slice A0_3 a0.Names.length c0_3]] := hw
   obtain ⟨g108, hAg, hwg⟩ := mSmachine_Machine.addr hw
   clear hw; subst hAg; have hw := hwg; clear hwg
   replace hw : St [] w0 _ [mSmachine_Machine (some ⟨g108, 0, none⟩) x103, own 38 (eI .u32) Aa89 cc90 t86, mSmachine_Machine (some ⟨g83, 0, none⟩) x53, box g31 32 [.slice Aa20 t18.Words.length cc21, .slice Aa22 t18.Sites.length cc23, .slice Aa24 t18.Syms.length cc25], own 72 eSapi_Sym none 0 ([] : List Sapi_Sym), own 3 (eI .i64) none 0 ([] : List Int), own 38 (eI .u32) none 0 ([] : List Int), own 38 (eI .u32) Aa20 cc21 t18.Words, own 3 (eI .i64) Aa22 cc23 t18.Sites, own 72 eSapi_Sym Aa24 cc25 t18.Syms, box g6 64 [.int .i64 a1.Base, .int .i64 a1.Mem, .slice A1_1 a1.In.length c1_1], box g2 26 [.slice A0_1 a0.Words.length c0_1, .slice A0_2 a0.Bits.length c0_2, .slice A0_3 a0.Names.length c0_3]] := hw
   refine go_pvs 7 [53] [(13, .pointer (some (⟨g108, 0, none⟩ : Addr))), (14, .int .i64 t97)] hs ?_; clear hs; intro a hs
   refine go_end (hK94 _ _ ?_)
   refine go_seq_k fun K109 hK109 => ?_
   have hJ5 : ∀ (v137 : Smachine_Machine) (a : Act) (w : World), Slots a 140 [(7, .int .i64 y41), (8, .int .i64 y43), (9, .pointer (some (⟨g83, 0, none⟩ : Addr))), (13, .pointer (some (⟨g108, 0, none⟩ : Addr)))] → St [] w0 w [mSmachine_Machine (some ⟨g108, 0, none⟩) v137, own 38 (eI .u32) Aa89 cc90 t86, mSmachine_Machine (some ⟨g83, 0, none⟩) x53, box g31 32 [.slice Aa20 t18.Words.length cc21, .slice Aa22 t18.Sites.length cc23, .slice Aa24 t18.Syms.length cc25], own 72 eSapi_Sym none 0 ([] : List Sapi_Sym), own 3 (eI .i64) none 0 ([] : List Int), own 38 (eI .u32) none 0 ([] : List Int), own 38 (eI .u32) Aa20 cc21 t18.Words, own 3 (eI .i64) Aa22 cc23 t18.Sites, own 72 eSapi_Sym Aa24 cc25 t18.Syms, box g6 64 [.int .i64 a1.Base, .int .i64 a1.Mem, .slice A1_1 a1.In.length c1_1], box g2 26 [.slice A0_1 a0.Words.length c0_1, .slice A0_2 a0.Bits.length c0_2, .slice A0_3 a0.Names.length c0_3]] → rivetlaw12_LoadStarts.j5 y41 y43 x53 v137 = some r → K109 a w := by
    intro v137 a w hs hw H
    unfold rivetlaw12_LoadStarts.j5 at H
    refine hK109 _ _ ?_
    refine go_sk fun K138 hK138 => ?_
    refine go_pvs 1 [] [(89, .agg (eSapi_Regs.enc (⟨(Vector.replicate 16 0), 0, false, false, false, false⟩ : Sapi_Regs)).toArray)] hs ?_; clear hs; intro a hs
    obtain ⟨ad139, wd140, hx141, hw⟩ := x_alloc1 (P := Tryd.prog) (elem := 50) (ty := 0) (z := .agg (eSapi_Regs.enc (⟨(Vector.replicate 16 0), 0, false, false, false, false⟩ : Sapi_Regs)).toArray) hs hw eSapi_Regs (⟨(Vector.replicate 16 0), 0, false, false, false, false⟩ : Sapi_Regs) (by kernel_rfl) (by kernel_rfl)
    refine go_run hs (by rfl) hx141 [] ?_; clear hs; intro a hs
    obtain ⟨wd143, hx144, hw⟩ := x_put (P := Tryd.prog) (ty := 0) (t := 50) (x := (Operand.tmp 15)) (y := (Operand.tmp 89)) (off := 0) (p := ad139) (v := .agg (eSapi_Regs.enc (⟨(Vector.replicate 16 0), 0, false, false, false, false⟩ : Sapi_Regs)).toArray) (vs := (eSapi_Regs.enc (⟨(Vector.replicate 16 0), 0, false, false, false, false⟩ : Sapi_Regs))) (i := 0) (e' := ((⟨(Vector.replicate 16 0), 0, false, false, false, false⟩ : Sapi_Regs) : Sapi_Regs)) hs hw rfl (one_ok (⟨(Vector.replicate 16 0), 0, false, false, false, false⟩ : Sapi_Regs)).1 (one_ok (⟨(Vector.replicate 16 0), 0, false, false, false, false⟩ : Sapi_Regs)).2 (by kernel_rfl) (one_at _ _) (by kernel_rfl) rfl (by kernel_rfl) (Nat.le_of_ble_eq_true rfl) (eSapi_Regs.one _) (by kernel_rfl)
    refine go_unit hs (by rfl) hx144 [89] ?_; clear hs; intro a hs
    replace hw : St [] w0 wd143 [own 50 eSapi_Regs (some ad139) 1 [(⟨(Vector.replicate 16 0), 0, false, false, false, false⟩ : Sapi_Regs)], mSmachine_Machine (some ⟨g108, 0, none⟩) v137, own 38 (eI .u32) Aa89 cc90 t86, mSmachine_Machine (some ⟨g83, 0, none⟩) x53, box g31 32 [.slice Aa20 t18.Words.length cc21, .slice Aa22 t18.Sites.length cc23, .slice Aa24 t18.Syms.length cc25], own 72 eSapi_Sym none 0 ([] : List Sapi_Sym), own 3 (eI .i64) none 0 ([] : List Int), own 38 (eI .u32) none 0 ([] : List Int), own 38 (eI .u32) Aa20 cc21 t18.Words, own 3 (eI .i64) Aa22 cc23 t18.Sites, own 72 eSapi_Sym Aa24 cc25 t18.Syms, box g6 64 [.int .i64 a1.Base, .int .i64 a1.Mem, .slice A1_1 a1.In.length c1_1], box g2 26 [.slice A0_1 a0.Words.length c0_1, .slice A0_2 a0.Bits.length c0_2, .slice A0_3 a0.Names.length c0_3]] := hw
    refine go_end (hK138 _ _ ?_)
    refine go_sk fun K145 hK145 => ?_
    refine go_pvs 3 [] [(91, .int .u32 (wu32 y41)), (92, .pointer (some ((ad139 : Addr).add 0)))] hs ?_; clear hs; intro a hs
    refine go_run hs (by rfl) (x_vidx (e := 38) (p := (ad139 : Addr).add 0) (n := 16) (k := .i64) (i := 13) (sz := 1) (⟨by decide, by decide⟩ : (0 : Int) ≤ 13 ∧ (13 : Int) < ((16 : Nat) : Int))) [92] ?_; clear hs; intro a hs
    obtain ⟨wd146, hx147, hw⟩ := x_put (P := Tryd.prog) (ty := 0) (t := 38) (x := (Operand.tmp 93)) (y := (Operand.tmp 91)) (off := 0 + 13 * 1) (p := ((ad139 : Addr).add 0 : Addr).add ((13 : Int).toNat * 1)) (v := .int .u32 (wu32 y41)) (vs := [.int .u32 (wu32 y41)]) (i := 0) (e' := (({ (⟨(Vector.replicate 16 0), 0, false, false, false, false⟩ : Sapi_Regs) with R := vset (Vector.replicate 16 0) 13 (wu32 y41) } : Sapi_Regs) : Sapi_Regs)) hs hw rfl (one_ok (⟨(Vector.replicate 16 0), 0, false, false, false, false⟩ : Sapi_Regs)).1 (one_ok (⟨(Vector.replicate 16 0), 0, false, false, false, false⟩ : Sapi_Regs)).2 (by kernel_rfl) (by simp only [add_add', Int.toNat_zero, Nat.zero_mul, Nat.zero_add, Nat.mul_one] <;> rfl) (by kernel_rfl) rfl (by kernel_rfl) (by have := (⟨by decide, by decide⟩ : (0 : Int) ≤ 13 ∧ (13 : Int) < ((16 : Nat) : Int)); show 0 + _ * 1 + 1 ≤ 21; omega) (by simp [Value.oneCell']) (vput (cs := eSapi_Regs.enc (⟨(Vector.replicate 16 0), 0, false, false, false, false⟩ : Sapi_Regs)) (cs' := eSapi_Regs.enc ({ (⟨(Vector.replicate 16 0), 0, false, false, false, false⟩ : Sapi_Regs) with R := vset (Vector.replicate 16 0) 13 (wu32 y41) } : Sapi_Regs)) (pre := []) (post := [.int .u32 0, .bool false, .bool false, .bool false, .bool false]) (f := (fun j : Nat => .int .u32 (vx 0 (Vector.replicate 16 0) j))) (f' := (fun j : Nat => .int .u32 (vx 0 (vset (Vector.replicate 16 0) 13 (wu32 y41)) j))) (n := 16) (o := 0) (i := 13) (v := .int .u32 (wu32 y41)) (by kernel_rfl) (by kernel_rfl) rfl (by have := (⟨by decide, by decide⟩ : (0 : Int) ≤ 13 ∧ (13 : Int) < ((16 : Nat) : Int)); omega) (vx_put (by have := (⟨by decide, by decide⟩ : (0 : Int) ≤ 13 ∧ (13 : Int) < ((16 : Nat) : Int)); omega)))
    refine go_unit hs (by rfl) hx147 [91, 93] ?_; clear hs; intro a hs
    replace hw : St [] w0 wd146 [own 50 eSapi_Regs (some ad139) 1 [({ (⟨(Vector.replicate 16 0), 0, false, false, false, false⟩ : Sapi_Regs) with R := vset (Vector.replicate 16 0) 13 (wu32 y41) } : Sapi_Regs)], mSmachine_Machine (some ⟨g108, 0, none⟩) v137, own 38 (eI .u32) Aa89 cc90 t86, mSmachine_Machine (some ⟨g83, 0, none⟩) x53, box g31 32 [.slice Aa20 t18.Words.length cc21, .slice Aa22 t18.Sites.length cc23, .slice Aa24 t18.Syms.length cc25], own 72 eSapi_Sym none 0 ([] : List Sapi_Sym), own 3 (eI .i64) none 0 ([] : List Int), own 38 (eI .u32) none 0 ([] : List Int), own 38 (eI .u32) Aa20 cc21 t18.Words, own 3 (eI .i64) Aa22 cc23 t18.Sites, own 72 eSapi_Sym Aa24 cc25 t18.Syms, box g6 64 [.int .i64 a1.Base, .int .i64 a1.Mem, .slice A1_1 a1.In.length c1_1], box g2 26 [.slice A0_1 a0.Words.length c0_1, .slice A0_2 a0.Bits.length c0_2, .slice A0_3 a0.Names.length c0_3]] := hw
    refine go_end (hK145 _ _ ?_)
    refine go_sk fun K148 hK148 => ?_
    refine go_pvs 4 [8] [(96, .int .u32 (wu32 (w64 (4 * y43)))), (97, .pointer (some ((ad139 : Addr).add 0)))] hs ?_; clear hs; intro a hs
    refine go_run hs (by rfl) (x_vidx (e := 38) (p := (ad139 : Addr).add 0) (n := 16) (k := .i64) (i := 14) (sz := 1) (⟨by decide, by decide⟩ : (0 : Int) ≤ 14 ∧ (14 : Int) < ((16 : Nat) : Int))) [97] ?_; clear hs; intro a hs
    obtain ⟨wd149, hx150, hw⟩ := x_put (P := Tryd.prog) (ty := 0) (t := 38) (x := (Operand.tmp 98)) (y := (Operand.tmp 96)) (off := 0 + 14 * 1) (p := ((ad139 : Addr).add 0 : Addr).add ((14 : Int).toNat * 1)) (v := .int .u32 (wu32 (w64 (4 * y43)))) (vs := [.int .u32 (wu32 (w64 (4 * y43)))]) (i := 0) (e' := (({ ({ (⟨(Vector.replicate 16 0), 0, false, false, false, false⟩ : Sapi_Regs) with R := vset (Vector.replicate 16 0) 13 (wu32 y41) } : Sapi_Regs) with R := vset (vset (Vector.replicate 16 0) 13 (wu32 y41)) 14 (wu32 (w64 (4 * y43))) } : Sapi_Regs) : Sapi_Regs)) hs hw rfl (one_ok ({ (⟨(Vector.replicate 16 0), 0, false, false, false, false⟩ : Sapi_Regs) with R := vset (Vector.replicate 16 0) 13 (wu32 y41) } : Sapi_Regs)).1 (one_ok ({ (⟨(Vector.replicate 16 0), 0, false, false, false, false⟩ : Sapi_Regs) with R := vset (Vector.replicate 16 0) 13 (wu32 y41) } : Sapi_Regs)).2 (by kernel_rfl) (by simp only [add_add', Int.toNat_zero, Nat.zero_mul, Nat.zero_add, Nat.mul_one] <;> rfl) (by kernel_rfl) rfl (by kernel_rfl) (by have := (⟨by decide, by decide⟩ : (0 : Int) ≤ 14 ∧ (14 : Int) < ((16 : Nat) : Int)); show 0 + _ * 1 + 1 ≤ 21; omega) (by simp [Value.oneCell']) (vput (cs := eSapi_Regs.enc ({ (⟨(Vector.replicate 16 0), 0, false, false, false, false⟩ : Sapi_Regs) with R := vset (Vector.replicate 16 0) 13 (wu32 y41) } : Sapi_Regs)) (cs' := eSapi_Regs.enc ({ ({ (⟨(Vector.replicate 16 0), 0, false, false, false, false⟩ : Sapi_Regs) with R := vset (Vector.replicate 16 0) 13 (wu32 y41) } : Sapi_Regs) with R := vset (vset (Vector.replicate 16 0) 13 (wu32 y41)) 14 (wu32 (w64 (4 * y43))) } : Sapi_Regs)) (pre := []) (post := [.int .u32 0, .bool false, .bool false, .bool false, .bool false]) (f := (fun j : Nat => .int .u32 (vx 0 (vset (Vector.replicate 16 0) 13 (wu32 y41)) j))) (f' := (fun j : Nat => .int .u32 (vx 0 (vset (vset (Vector.replicate 16 0) 13 (wu32 y41)) 14 (wu32 (w64 (4 * y43)))) j))) (n := 16) (o := 0) (i := 14) (v := .int .u32 (wu32 (w64 (4 * y43)))) (by kernel_rfl) (by kernel_rfl) rfl (by have := (⟨by decide, by decide⟩ : (0 : Int) ≤ 14 ∧ (14 : Int) < ((16 : Nat) : Int)); omega) (vx_put (by have := (⟨by decide, by decide⟩ : (0 : Int) ≤ 14 ∧ (14 : Int) < ((16 : Nat) : Int)); omega)))
    refine go_unit hs (by rfl) hx150 [96, 98] ?_; clear hs; intro a hs
    replace hw : St [] w0 wd149 [own 50 eSapi_Regs (some ad139) 1 [({ ({ (⟨(Vector.replicate 16 0), 0, false, false, false, false⟩ : Sapi_Regs) with R := vset (Vector.replicate 16 0) 13 (wu32 y41) } : Sapi_Regs) with R := vset (vset (Vector.replicate 16 0) 13 (wu32 y41)) 14 (wu32 (w64 (4 * y43))) } : Sapi_Regs)], mSmachine_Machine (some ⟨g108, 0, none⟩) v137, own 38 (eI .u32) Aa89 cc90 t86, mSmachine_Machine (some ⟨g83, 0, none⟩) x53, box g31 32 [.slice Aa20 t18.Words.length cc21, .slice Aa22 t18.Sites.length cc23, .slice Aa24 t18.Syms.length cc25], own 72 eSapi_Sym none 0 ([] : List Sapi_Sym), own 3 (eI .i64) none 0 ([] : List Int), own 38 (eI .u32) none 0 ([] : List Int), own 38 (eI .u32) Aa20 cc21 t18.Words, own 3 (eI .i64) Aa22 cc23 t18.Sites, own 72 eSapi_Sym Aa24 cc25 t18.Syms, box g6 64 [.int .i64 a1.Base, .int .i64 a1.Mem, .slice A1_1 a1.In.length c1_1], box g2 26 [.slice A0_1 a0.Words.length c0_1, .slice A0_2 a0.Bits.length c0_2, .slice A0_3 a0.Names.length c0_3]] := hw
    refine go_end (hK148 _ _ ?_)
    refine go_sk fun K151 hK151 => ?_
    refine go_pvs 3 [7] [(99, .pointer (some (⟨g108, 0, none⟩ : Addr))), (101, .int .u32 (wu32 y41))] hs ?_; clear hs; intro a hs
    refine go_run hs (by rfl) (x_lds (off := 0) (p := ad139) (cs := (eSapi_Regs.enc ({ ({ (⟨(Vector.replicate 16 0), 0, false, false, false, false⟩ : Sapi_Regs) with R := vset (Vector.replicate 16 0) 13 (wu32 y41) } : Sapi_Regs) with R := vset (vset (Vector.replicate 16 0) 13 (wu32 y41)) 14 (wu32 (w64 (4 * y43))) } : Sapi_Regs))) (Rd.of_own (hw.up 0)) (one_ok ({ ({ (⟨(Vector.replicate 16 0), 0, false, false, false, false⟩ : Sapi_Regs) with R := vset (Vector.replicate 16 0) 13 (wu32 y41) } : Sapi_Regs) with R := vset (vset (Vector.replicate 16 0) 13 (wu32 y41)) 14 (wu32 (w64 (4 * y43))) } : Sapi_Regs)) (one_at _ _)) [15] ?_; clear hs; intro a hs
    replace hw := hw.up 1
    obtain ⟨ks152, hgks152, hstks152, hbkks152⟩ := hw.lend 1
    obtain ⟨t153, hx154, H⟩ := bind_some H
    refine go_call hs (by rfl) (machine_Machine_Start.calls ks152 (some ⟨g108, 0, none⟩) v137 (wu32 y41) ({ ({ (⟨(Vector.replicate 16 0), 0, false, false, false, false⟩ : Sapi_Regs) with R := vset (Vector.replicate 16 0) 13 (wu32 y41) } : Sapi_Regs) with R := vset (vset (Vector.replicate 16 0) 13 (wu32 y41)) 14 (wu32 (w64 (4 * y43))) } : Sapi_Regs) t153 _ hgks152 hx154) ?_
    rintro e wd155 ⟨rfl, hw156⟩
    refine ⟨_, rfl, ?_⟩
    replace hw := hbkks152 _ _ hw156
    replace hw : St [] w0 wd155 [mSmachine_Machine (some ⟨g108, 0, none⟩) t153, own 50 eSapi_Regs (some ad139) 1 [({ ({ (⟨(Vector.replicate 16 0), 0, false, false, false, false⟩ : Sapi_Regs) with R := vset (Vector.replicate 16 0) 13 (wu32 y41) } : Sapi_Regs) with R := vset (vset (Vector.replicate 16 0) 13 (wu32 y41)) 14 (wu32 (w64 (4 * y43))) } : Sapi_Regs)], own 38 (eI .u32) Aa89 cc90 t86, mSmachine_Machine (some ⟨g83, 0, none⟩) x53, box g31 32 [.slice Aa20 t18.Words.length cc21, .slice Aa22 t18.Sites.length cc23, .slice Aa24 t18.Syms.length cc25], own 72 eSapi_Sym none 0 ([] : List Sapi_Sym), own 3 (eI .i64) none 0 ([] : List Int), own 38 (eI .u32) none 0 ([] : List Int), own 38 (eI .u32) Aa20 cc21 t18.Words, own 3 (eI .i64) Aa22 cc23 t18.Sites, own 72 eSapi_Sym Aa24 cc25 t18.Syms, box g6 64 [.int .i64 a1.Base, .int .i64 a1.Mem, .slice A1_1 a1.In.length c1_1], box g2 26 [.slice A0_1 a0.Words.length c0_1, .slice A0_2 a0.Bits.length c0_2, .slice A0_3 a0.Names.length c0_3]] := hw
    clear hs; intro a hs; replace hs := hs.rms [99, 101, 102, 103]
    refine go_end (hK151 _ _ ?_)
    refine go_seq_k fun K157 hK157 => ?_
    have hJ6 : ∀ (v238 : Bool) (a : Act) (w : World), Slots a 140 [(4, .bool v238)] → St [] w0 w [mSmachine_Machine (some ⟨g108, 0, none⟩) t153, own 50 eSapi_Regs (some ad139) 1 [({ ({ (⟨(Vector.replicate 16 0), 0, false, false, false, false⟩ : Sapi_Regs) with R := vset (Vector.replicate 16 0) 13 (wu32 y41) } : Sapi_Regs) with R := vset (vset (Vector.replicate 16 0) 13 (wu32 y41)) 14 (wu32 (w64 (4 * y43))) } : Sapi_Regs)], own 38 (eI .u32) Aa89 cc90 t86, mSmachine_Machine (some ⟨g83, 0, none⟩) x53, box g31 32 [.slice Aa20 t18.Words.length cc21, .slice Aa22 t18.Sites.length cc23, .slice Aa24 t18.Syms.length cc25], own 72 eSapi_Sym none 0 ([] : List Sapi_Sym), own 3 (eI .i64) none 0 ([] : List Int), own 38 (eI .u32) none 0 ([] : List Int), own 38 (eI .u32) Aa20 cc21 t18.Words, own 3 (eI .i64) Aa22 cc23 t18.Sites, own 72 eSapi_Sym Aa24 cc25 t18.Syms, box g6 64 [.int .i64 a1.Base, .int .i64 a1.Mem, .slice A1_1 a1.In.length c1_1], box g2 26 [.slice A0_1 a0.Words.length c0_1, .slice A0_2 a0.Bits.length c0_2, .slice A0_3 a0.Names.length c0_3]] → rivetlaw12_LoadStarts.j6 v238 = some r → K157 a w := by
     intro v238 a w hs hw H
     unfold rivetlaw12_LoadStarts.j6 at H
     refine hK157 _ _ ?_
     refine wp_ret ?_
     obtain rfl := Option.some.inj H
     refine ret1 (t := 4) (v := .bool v238) hs (by kernel_rfl) (by kernel_rfl) ?_
     exact ⟨rfl, hw.only 0⟩
    refine c_region [(true, [0, 1, 2, 3, 5, 6, 7, 8], 4), (true, [], 9), (true, [], 10), (true, [11, 12, 14], 13), (true, [], 15), (true, [16, 17, 18, 19, 21], 20), (true, [], 22), (true, [23, 24, 25, 26], 27), (true, [28, 29, 30, 31], 32)] [33, 34, 35, 36] (by kernel_rfl) (by kernel_rfl) (fun c a d v w h => by cases d <;> exact h) ?_
    refine c_seg ?_
    refine c_pvs [0, 1, 2] [3, 5, 6, 7, 8] [] [(106, .pointer (some (⟨g83, 0, none⟩ : Addr)))] hs ?_; clear hs; intro a hs
    replace hw := hw.up 3
    obtain ⟨Aa158, Aa160, cc161, Aa163, cc164, hw⟩ := mSmachine_Machine.open1 hw
    replace hw : St [] w0 _ [box g83 55 ([.pointer Aa158] ++ eSapi_Regs.enc x53.s ++ [.int .u32 x53.pc, .int .i64 x53.status, .slice Aa160 x53.in'.length cc161, .slice Aa163 x53.out.length cc164]), oM mSmemory_Memory Aa158 x53.Memory, rdo (eI .u32) Aa160 cc161 x53.in', own 38 (eI .u32) Aa163 cc164 x53.out, mSmachine_Machine (some ⟨g108, 0, none⟩) t153, own 50 eSapi_Regs (some ad139) 1 [({ ({ (⟨(Vector.replicate 16 0), 0, false, false, false, false⟩ : Sapi_Regs) with R := vset (Vector.replicate 16 0) 13 (wu32 y41) } : Sapi_Regs) with R := vset (vset (Vector.replicate 16 0) 13 (wu32 y41)) 14 (wu32 (w64 (4 * y43))) } : Sapi_Regs)], own 38 (eI .u32) Aa89 cc90 t86, box g31 32 [.slice Aa20 t18.Words.length cc21, .slice Aa22 t18.Sites.length cc23, .slice Aa24 t18.Syms.length cc25], own 72 eSapi_Sym none 0 ([] : List Sapi_Sym), own 3 (eI .i64) none 0 ([] : List Int), own 38 (eI .u32) none 0 ([] : List Int), own 38 (eI .u32) Aa20 cc21 t18.Words, own 3 (eI .i64) Aa22 cc23 t18.Sites, own 72 eSapi_Sym Aa24 cc25 t18.Syms, box g6 64 [.int .i64 a1.Base, .int .i64 a1.Mem, .slice A1_1 a1.In.length c1_1], box g2 26 [.slice A0_1 a0.Words.length c0_1, .slice A0_2 a0.Bits.length c0_2, .slice A0_3 a0.Names.length c0_3]] := hw
    replace hw := hw.up 1
    obtain ⟨y166, hy167, H⟩ := bind_some H
    replace hw := St.oM_some hw hy167
    obtain ⟨g168, hAg, hwg⟩ := St.one hw
    clear hw; subst hAg; have hw := hwg; clear hwg
    replace hw : St [] w0 _ [own 78 eSmemory_Memory (some (⟨g168, 0, none⟩ : Addr)) 1 [y166], box g83 55 ([.pointer (some (⟨g168, 0, none⟩ : Addr))] ++ eSapi_Regs.enc x53.s ++ [.int .u32 x53.pc, .int .i64 x53.status, .slice Aa160 x53.in'.length cc161, .slice Aa163 x53.out.length cc164]), rdo (eI .u32) Aa160 cc161 x53.in', own 38 (eI .u32) Aa163 cc164 x53.out, mSmachine_Machine (some ⟨g108, 0, none⟩) t153, own 50 eSapi_Regs (some ad139) 1 [({ ({ (⟨(Vector.replicate 16 0), 0, false, false, false, false⟩ : Sapi_Regs) with R := vset (Vector.replicate 16 0) 13 (wu32 y41) } : Sapi_Regs) with R := vset (vset (Vector.replicate 16 0) 13 (wu32 y41)) 14 (wu32 (w64 (4 * y43))) } : Sapi_Regs)], own 38 (eI .u32) Aa89 cc90 t86, box g31 32 [.slice Aa20 t18.Words.length cc21, .slice Aa22 t18.Sites.length cc23, .slice Aa24 t18.Syms.length cc25], own 72 eSapi_Sym none 0 ([] : List Sapi_Sym), own 3 (eI .i64) none 0 ([] : List Int), own 38 (eI .u32) none 0 ([] : List Int), own 38 (eI .u32) Aa20 cc21 t18.Words, own 3 (eI .i64) Aa22 cc23 t18.Sites, own 72 eSapi_Sym Aa24 cc25 t18.Syms, box g6 64 [.int .i64 a1.Base, .int .i64 a1.Mem, .slice A1_1 a1.In.length c1_1], box g2 26 [.slice A0_1 a0.Words.length c0_1, .slice A0_2 a0.Bits.length c0_2, .slice A0_3 a0.Names.length c0_3]] := hw
    refine c_run hs (by rfl) (fun wx hbx => (x_bld (g := g83) (o := 0) (p := (⟨g83, 0, none⟩ : Addr)) (v := .pointer (some (⟨g168, 0, none⟩ : Addr))) ((hw.behind hbx).up 1))) [106] ?_; clear hs; intro a hs
    refine c_pvs [5, 6, 7] [8] [] [(111, .pointer (some (⟨g108, 0, none⟩ : Addr)))] hs ?_; clear hs; intro a hs
    replace hw := hw.up 4
    obtain ⟨Aa169, Aa171, cc172, Aa174, cc175, hw⟩ := mSmachine_Machine.open1 hw
    replace hw : St [] w0 _ [box g108 55 ([.pointer Aa169] ++ eSapi_Regs.enc t153.s ++ [.int .u32 t153.pc, .int .i64 t153.status, .slice Aa171 t153.in'.length cc172, .slice Aa174 t153.out.length cc175]), oM mSmemory_Memory Aa169 t153.Memory, rdo (eI .u32) Aa171 cc172 t153.in', own 38 (eI .u32) Aa174 cc175 t153.out, own 78 eSmemory_Memory (some (⟨g168, 0, none⟩ : Addr)) 1 [y166], box g83 55 ([.pointer (some (⟨g168, 0, none⟩ : Addr))] ++ eSapi_Regs.enc x53.s ++ [.int .u32 x53.pc, .int .i64 x53.status, .slice Aa160 x53.in'.length cc161, .slice Aa163 x53.out.length cc164]), rdo (eI .u32) Aa160 cc161 x53.in', own 38 (eI .u32) Aa163 cc164 x53.out, own 50 eSapi_Regs (some ad139) 1 [({ ({ (⟨(Vector.replicate 16 0), 0, false, false, false, false⟩ : Sapi_Regs) with R := vset (Vector.replicate 16 0) 13 (wu32 y41) } : Sapi_Regs) with R := vset (vset (Vector.replicate 16 0) 13 (wu32 y41)) 14 (wu32 (w64 (4 * y43))) } : Sapi_Regs)], own 38 (eI .u32) Aa89 cc90 t86, box g31 32 [.slice Aa20 t18.Words.length cc21, .slice Aa22 t18.Sites.length cc23, .slice Aa24 t18.Syms.length cc25], own 72 eSapi_Sym none 0 ([] : List Sapi_Sym), own 3 (eI .i64) none 0 ([] : List Int), own 38 (eI .u32) none 0 ([] : List Int), own 38 (eI .u32) Aa20 cc21 t18.Words, own 3 (eI .i64) Aa22 cc23 t18.Sites, own 72 eSapi_Sym Aa24 cc25 t18.Syms, box g6 64 [.int .i64 a1.Base, .int .i64 a1.Mem, .slice A1_1 a1.In.length c1_1], box g2 26 [.slice A0_1 a0.Words.length c0_1, .slice A0_2 a0.Bits.length c0_2, .slice A0_3 a0.Names.length c0_3]] := hw
    replace hw := hw.up 1
    obtain ⟨y177, hy178, H⟩ := bind_some H
    replace hw := St.oM_some hw hy178
    obtain ⟨g179, hAg, hwg⟩ := St.one hw
    clear hw; subst hAg; have hw := hwg; clear hwg
    replace hw : St [] w0 _ [own 78 eSmemory_Memory (some (⟨g179, 0, none⟩ : Addr)) 1 [y177], box g108 55 ([.pointer (some (⟨g179, 0, none⟩ : Addr))] ++ eSapi_Regs.enc t153.s ++ [.int .u32 t153.pc, .int .i64 t153.status, .slice Aa171 t153.in'.length cc172, .slice Aa174 t153.out.length cc175]), rdo (eI .u32) Aa171 cc172 t153.in', own 38 (eI .u32) Aa174 cc175 t153.out, own 78 eSmemory_Memory (some (⟨g168, 0, none⟩ : Addr)) 1 [y166], box g83 55 ([.pointer (some (⟨g168, 0, none⟩ : Addr))] ++ eSapi_Regs.enc x53.s ++ [.int .u32 x53.pc, .int .i64 x53.status, .slice Aa160 x53.in'.length cc161, .slice Aa163 x53.out.length cc164]), rdo (eI .u32) Aa160 cc161 x53.in', own 38 (eI .u32) Aa163 cc164 x53.out, own 50 eSapi_Regs (some ad139) 1 [({ ({ (⟨(Vector.replicate 16 0), 0, false, false, false, false⟩ : Sapi_Regs) with R := vset (Vector.replicate 16 0) 13 (wu32 y41) } : Sapi_Regs) with R := vset (vset (Vector.replicate 16 0) 13 (wu32 y41)) 14 (wu32 (w64 (4 * y43))) } : Sapi_Regs)], own 38 (eI .u32) Aa89 cc90 t86, box g31 32 [.slice Aa20 t18.Words.length cc21, .slice Aa22 t18.Sites.length cc23, .slice Aa24 t18.Syms.length cc25], own 72 eSapi_Sym none 0 ([] : List Sapi_Sym), own 3 (eI .i64) none 0 ([] : List Int), own 38 (eI .u32) none 0 ([] : List Int), own 38 (eI .u32) Aa20 cc21 t18.Words, own 3 (eI .i64) Aa22 cc23 t18.Sites, own 72 eSapi_Sym Aa24 cc25 t18.Syms, box g6 64 [.int .i64 a1.Base, .int .i64 a1.Mem, .slice A1_1 a1.In.length c1_1], box g2 26 [.slice A0_1 a0.Words.length c0_1, .slice A0_2 a0.Bits.length c0_2, .slice A0_3 a0.Names.length c0_3]] := hw
    refine c_run hs (by rfl) (fun wx hbx => (x_bld (g := g108) (o := 0) (p := (⟨g108, 0, none⟩ : Addr)) (v := .pointer (some (⟨g179, 0, none⟩ : Addr))) ((hw.behind hbx).up 1))) [111] ?_; clear hs; intro a hs
    refine c_end ?_
    intro wq hbq
    replace hw := hw.behind hbq
    have hbc := Below.refl wq.heap.size wq
    obtain ⟨t181, hx182, H⟩ := bind_some H
    refine p_call hs (by rfl) (memory_Memory_Words.calls (some (⟨g168, 0, none⟩ : Addr)) y166 t181 _ (Rd.of_own (hw.up 4)) hx182) ?_
    rintro e wd185 ⟨Aa183, cc184, rfl, hw186⟩
    refine ⟨_, rfl, ?_⟩
    replace hbc := hw186.below
    replace hw := hw.call hw186
    clear hs; intro a hs; replace hs := hs.rms [107]
    refine c_done ⟨bl_of hbq hbc, ?_⟩
    clear hbc hbq
    refine c_seg ?_
    refine c_end ?_
    intro wq hbq
    replace hw := hw.behind hbq
    have hbc := Below.refl wq.heap.size wq
    obtain ⟨t189, hx190, H⟩ := bind_some H
    refine p_call hs (by rfl) (memory_Memory_Words.calls (some (⟨g179, 0, none⟩ : Addr)) y177 t189 _ (Rd.of_own (hw.up 1)) hx190) ?_
    rintro e wd193 ⟨Aa191, cc192, rfl, hw194⟩
    refine ⟨_, rfl, ?_⟩
    replace hbc := hw194.below
    replace hw := hw.call hw194
    clear hs; intro a hs; replace hs := hs.rms [112]
    refine c_done ⟨bl_of hbq hbc, ?_⟩
    clear hbc hbq
    refine c_seg ?_
    refine c_end ?_
    intro wq hbq
    replace hw := hw.behind hbq
    have hbc := Below.refl wq.heap.size wq
    obtain ⟨t197, hx198, H⟩ := bind_some H
    refine p_call hs (by rfl) (rivetref05_Same.calls Aa183 cc184 t181 Aa191 cc192 t189 t197 _ (Rd.of_own (hw.up 1)) (Rd.of_own (hw.up 0)) hx198) ?_
    rintro e wd199 ⟨rfl, hw200⟩
    refine ⟨_, rfl, ?_⟩
    replace hbc := hw200.below
    replace hw := hw.call hw200
    clear hs; intro a hs; replace hs := hs.rms [108, 113]
    refine c_done ⟨bl_of hbq hbc, ?_⟩
    clear hbc hbq
    refine c_seg ?_
    refine c_pvs [11] [12, 14] [114] [(115, .bool t197)] hs ?_; clear hs; intro a hs
    cases hb201 : t197
    ·replace H := ite_f H (ff hb201)
     rw [hb201] at hs
     refine c_pvs [12, 14] [] [] [(116, undef), (118, undef)] hs ?_; clear hs; intro a hs
     refine c_end ?_
     intro wq hbq
     replace hw := hw.behind hbq
     have hbc := Below.refl wq.heap.size wq
     refine p_pvs [13] [] [116] [(117, undef)] hs ?_; clear hs; intro a hs
     refine c_done ⟨bl_of hbq hbc, ?_⟩
     clear hbc hbq
     refine c_seg ?_
     refine c_end ?_
     intro wq hbq
     replace hw := hw.behind hbq
     have hbc := Below.refl wq.heap.size wq
     refine p_pvs [15] [] [118] [(119, undef)] hs ?_; clear hs; intro a hs
     refine c_done ⟨bl_of hbq hbc, ?_⟩
     clear hbc hbq
     refine c_seg ?_
     refine c_pvs [16, 17, 18, 19, 21] [] [13, 115, 117, 119] [(122, .bool false), (123, undef), (125, undef)] hs ?_; clear hs; intro a hs
     refine c_end ?_
     intro wq hbq
     replace hw := hw.behind hbq
     have hbc := Below.refl wq.heap.size wq
     refine p_pvs [20] [] [123] [(124, undef)] hs ?_; clear hs; intro a hs
     replace hs : Slots a 140 [(9, .pointer (some (⟨g83, 0, none⟩ : Addr))), (122, .bool false), (124, undef), (125, undef)] := hs.kx
     refine c_done ⟨bl_of hbq hbc, ?_⟩
     clear hbc hbq
     refine c_seg ?_
     refine c_end ?_
     intro wq hbq
     replace hw := hw.behind hbq
     have hbc := Below.refl wq.heap.size wq
     refine p_pvs [22] [] [125] [(126, undef)] hs ?_; clear hs; intro a hs
     refine c_done ⟨bl_of hbq hbc, ?_⟩
     clear hbc hbq
     refine c_seg ?_
     refine c_pvs [23, 24, 25, 26] [] [122, 124, 126] [(129, .bool false), (130, undef)] hs ?_; clear hs; intro a hs
     refine c_end ?_
     intro wq hbq
     replace hw := hw.behind hbq
     have hbc := Below.refl wq.heap.size wq
     refine p_pvs [27] [] [130] [(131, undef)] hs ?_; clear hs; intro a hs
     refine c_done ⟨bl_of hbq hbc, ?_⟩
     clear hbc hbq
     refine c_seg ?_
     refine c_pvs [28, 29, 30, 31] [] [9, 129, 131] [(134, .bool false), (135, undef)] hs ?_; clear hs; intro a hs
     refine c_end ?_
     intro wq hbq
     replace hw := hw.behind hbq
     have hbc := Below.refl wq.heap.size wq
     refine p_pvs [32] [] [135] [(136, undef)] hs ?_; clear hs; intro a hs
     refine c_done ⟨bl_of hbq hbc, ?_⟩
     clear hbc hbq
     refine c_last ?_
     refine c_pvs [33, 34, 35, 36] [] [134, 136] [(4, .bool false)] hs ?_; clear hs; intro a hs
     refine c_end ?_
     intro wq hbq
     replace hw := hw.behind hbq
     replace hw := hw.up 2
     replace hw := St.oM_back (m := mSmemory_Memory) (A := (some (⟨g179, 0, none⟩ : Addr))) (x := y177) hw hy178
     replace hw := hw.up 5
     replace hw := hw.up 5
     replace hw := hw.up 2
     replace hw := hw.up 5
     replace hw := mSmachine_Machine.close (x := t153) hw
     replace hw := hw.up 3
     replace hw := St.oM_back (m := mSmemory_Memory) (A := (some (⟨g168, 0, none⟩ : Addr))) (x := y166) hw hy167
     replace hw := hw.up 6
     replace hw := hw.up 6
     replace hw := hw.up 2
     replace hw := hw.up 6
     replace hw := mSmachine_Machine.close (x := x53) hw
     replace hw := hw.up 14
     replace hw := hw.up 14
     replace hw := hw.up 14
     replace hw := hw.up 14
     replace hw := hw.up 14
     replace hw := hw.up 14
     replace hw := hw.up 14
     replace hw := hw.up 14
     replace hw := hw.up 14
     replace hw := hw.up 9
     replace hw := hw.up 14
     replace hw := hw.up 14
     replace hw := hw.up 12
     replace hw := hw.only 13
     exact hJ6 false _ _ hs.kx hw H
    ·replace H := ite_t H hb201
     rw [hb201] at hs
     refine c_pvs [12, 14] [] [] [(116, .pointer (some (⟨g83, 0, none⟩ : Addr))), (118, .pointer (some (⟨g108, 0, none⟩ : Addr)))] hs ?_; clear hs; intro a hs
     refine c_end ?_
     intro wq hbq
     replace hw := hw.behind hbq
     have hbc := Below.refl wq.heap.size wq
     replace hw := hw.up 6
     replace hw := St.oM_back (m := mSmemory_Memory) (A := (some (⟨g168, 0, none⟩ : Addr))) (x := y166) hw hy167
     replace hw := hw.up 9
     replace hw := hw.up 9
     replace hw := hw.up 2
     replace hw := hw.up 9
     replace hw := mSmachine_Machine.close (x := x53) hw
     obtain ⟨t203, hx204, H⟩ := bind_some H
     refine p_call hs (by rfl) (machine_Machine_PC.calls (some ⟨g83, 0, none⟩) x53 t203 _ (rSmachine_Machine.of_m (hw.up 0)) hx204) ?_
     rintro e wd205 ⟨rfl, hw206⟩
     refine ⟨_, rfl, ?_⟩
     replace hbc := hw206.below
     replace hw := hw.call hw206
     clear hs; intro a hs; replace hs := hs.rms [116]
     refine c_done ⟨bl_of hbq hbc, ?_⟩
     clear hbc hbq
     refine c_seg ?_
     refine c_end ?_
     intro wq hbq
     replace hw := hw.behind hbq
     have hbc := Below.refl wq.heap.size wq
     replace hw := hw.up 3
     replace hw := St.oM_back (m := mSmemory_Memory) (A := (some (⟨g179, 0, none⟩ : Addr))) (x := y177) hw hy178
     replace hw := hw.up 6
     replace hw := hw.up 6
     replace hw := hw.up 2
     replace hw := hw.up 6
     replace hw := mSmachine_Machine.close (x := t153) hw
     obtain ⟨t208, hx209, H⟩ := bind_some H
     refine p_call hs (by rfl) (machine_Machine_PC.calls (some ⟨g108, 0, none⟩) t153 t208 _ (rSmachine_Machine.of_m (hw.up 0)) hx209) ?_
     rintro e wd210 ⟨rfl, hw211⟩
     refine ⟨_, rfl, ?_⟩
     replace hbc := hw211.below
     replace hw := hw.call hw211
     clear hs; intro a hs; replace hs := hs.rms [118]
     refine c_done ⟨bl_of hbq hbc, ?_⟩
     clear hbc hbq
     refine c_seg ?_
     refine c_pvs [16, 17, 18] [19, 21] [115, 117, 119] [(122, .bool (t203 == t208))] hs ?_; clear hs; intro a hs
     cases hb212 : (t203 == t208)
     ·replace H := ite_f H (beq_eq_false_iff_ne.1 hb212)
      rw [hb212] at hs
      refine c_pvs [19, 21] [] [13] [(123, undef), (125, undef)] hs ?_; clear hs; intro a hs
      replace hs : Slots a 140 [(9, .pointer (some (⟨g83, 0, none⟩ : Addr))), (122, .bool false), (123, undef), (125, undef)] := hs.kx
      refine c_end ?_
      intro wq hbq
      replace hw := hw.behind hbq
      have hbc := Below.refl wq.heap.size wq
      refine p_pvs [20] [] [123] [(124, undef)] hs ?_; clear hs; intro a hs
      refine c_done ⟨bl_of hbq hbc, ?_⟩
      clear hbc hbq
      refine c_seg ?_
      refine c_end ?_
      intro wq hbq
      replace hw := hw.behind hbq
      have hbc := Below.refl wq.heap.size wq
      refine p_pvs [22] [] [125] [(126, undef)] hs ?_; clear hs; intro a hs
      refine c_done ⟨bl_of hbq hbc, ?_⟩
      clear hbc hbq
      refine c_seg ?_
      refine c_pvs [23, 24, 25, 26] [] [122, 124, 126] [(129, .bool false), (130, undef)] hs ?_; clear hs; intro a hs
      refine c_end ?_
      intro wq hbq
      replace hw := hw.behind hbq
      have hbc := Below.refl wq.heap.size wq
      refine p_pvs [27] [] [130] [(131, undef)] hs ?_; clear hs; intro a hs
      refine c_done ⟨bl_of hbq hbc, ?_⟩
      clear hbc hbq
      refine c_seg ?_
      refine c_pvs [28, 29, 30, 31] [] [9, 129, 131] [(134, .bool false), (135, undef)] hs ?_; clear hs; intro a hs
      refine c_end ?_
      intro wq hbq
      replace hw := hw.behind hbq
      have hbc := Below.refl wq.heap.size wq
      refine p_pvs [32] [] [135] [(136, undef)] hs ?_; clear hs; intro a hs
      refine c_done ⟨bl_of hbq hbc, ?_⟩
      clear hbc hbq
      refine c_last ?_
      refine c_pvs [33, 34, 35, 36] [] [134, 136] [(4, .bool false)] hs ?_; clear hs; intro a hs
      refine c_end ?_
      intro wq hbq
      replace hw := hw.behind hbq
      replace hw := hw.up 14
      replace hw := hw.up 14
      replace hw := hw.up 14
      replace hw := hw.up 14
      replace hw := hw.up 14
      replace hw := hw.up 14
      replace hw := hw.up 14
      replace hw := hw.up 14
      replace hw := hw.up 14
      replace hw := hw.up 10
      replace hw := hw.up 14
      replace hw := hw.up 14
      replace hw := hw.up 12
      replace hw := hw.only 13
      exact hJ6 false _ _ hs.kx hw H
     ·replace H := ite_t H (beq_iff_eq.1 hb212)
      rw [hb212] at hs
      refine c_pvs [19, 21] [] [13] [(123, .pointer (some (⟨g83, 0, none⟩ : Addr))), (125, .pointer (some (⟨g108, 0, none⟩ : Addr)))] hs ?_; clear hs; intro a hs
      replace hs : Slots a 140 [(9, .pointer (some (⟨g83, 0, none⟩ : Addr))), (122, .bool true), (123, .pointer (some (⟨g83, 0, none⟩ : Addr))), (125, .pointer (some (⟨g108, 0, none⟩ : Addr)))] := hs.kx
      refine c_end ?_
      intro wq hbq
      replace hw := hw.behind hbq
      have hbc := Below.refl wq.heap.size wq
      obtain ⟨t214, hx215, H⟩ := bind_some H
      refine p_call hs (by rfl) (machine_Machine_Regs.calls (some ⟨g83, 0, none⟩) x53 t214 _ (rSmachine_Machine.of_m (hw.up 1)) hx215) ?_
      rintro e wd216 ⟨rfl, hw217⟩
      refine ⟨_, rfl, ?_⟩
      replace hbc := hw217.below
      replace hw := hw.call hw217
      clear hs; intro a hs; replace hs := hs.rms [123]
      refine c_done ⟨bl_of hbq hbc, ?_⟩
      clear hbc hbq
      refine c_seg ?_
      refine c_end ?_
      intro wq hbq
      replace hw := hw.behind hbq
      have hbc := Below.refl wq.heap.size wq
      obtain ⟨t219, hx220, H⟩ := bind_some H
      refine p_call hs (by rfl) (machine_Machine_Regs.calls (some ⟨g108, 0, none⟩) t153 t219 _ (rSmachine_Machine.of_m (hw.up 0)) hx220) ?_
      rintro e wd221 ⟨rfl, hw222⟩
      refine ⟨_, rfl, ?_⟩
      replace hbc := hw222.below
      replace hw := hw.call hw222
      clear hs; intro a hs; replace hs := hs.rms [125]
      refine c_done ⟨bl_of hbq hbc, ?_⟩
      clear hbc hbq
      refine c_seg ?_
      refine c_run hs (by rfl) (fun wx hbx => (x_eql (xs := (eSapi_Regs.enc t214).toArray) (ys := (eSapi_Regs.enc t219).toArray) (r := ((decide (t214.R = t219.R)) && ((t214.H == t219.H) && ((t214.N == t219.N) && ((t214.Z == t219.Z) && ((t214.C == t219.C) && ((t214.V == t219.V) && true))))))) (by kernel_rfl) (by kernel_rfl) (by kernel_rfl) (eq_struct Tryd.underlying50 (by kernel_rfl) (eq_cons (a := .agg (eA48.enc t214.R).toArray) (b := .agg (eA48.enc t219.R).toArray) (r := (decide (t214.R = t219.R))) (s := ((t214.H == t219.H) && ((t214.N == t219.N) && ((t214.Z == t219.Z) && ((t214.C == t219.C) && ((t214.V == t219.V) && true)))))) (by kernel_rfl) (part_pv (by kernel_rfl)) (part_pv (by kernel_rfl)) (eq_vec (e := 38) (k' := .u32) (k := .u32) t214.R t219.R (by kernel_rfl) (by kernel_rfl) (by kernel_rfl) (by kernel_rfl) (by kernel_rfl)) (eq_cons (a := .int .u32 t214.H) (b := .int .u32 t219.H) (r := (t214.H == t219.H)) (s := ((t214.N == t219.N) && ((t214.Z == t219.Z) && ((t214.C == t219.C) && ((t214.V == t219.V) && true))))) (by kernel_rfl) (part_pv (by kernel_rfl)) (part_pv (by kernel_rfl)) (eq_pv (by kernel_rfl)) (eq_cons (a := .bool t214.N) (b := .bool t219.N) (r := (t214.N == t219.N)) (s := ((t214.Z == t219.Z) && ((t214.C == t219.C) && ((t214.V == t219.V) && true)))) (by kernel_rfl) (part_pv (by kernel_rfl)) (part_pv (by kernel_rfl)) (eq_pv (by kernel_rfl)) (eq_cons (a := .bool t214.Z) (b := .bool t219.Z) (r := (t214.Z == t219.Z)) (s := ((t214.C == t219.C) && ((t214.V == t219.V) && true))) (by kernel_rfl) (part_pv (by kernel_rfl)) (part_pv (by kernel_rfl)) (eq_pv (by kernel_rfl)) (eq_cons (a := .bool t214.C) (b := .bool t219.C) (r := (t214.C == t219.C)) (s := ((t214.V == t219.V) && true)) (by kernel_rfl) (part_pv (by kernel_rfl)) (part_pv (by kernel_rfl)) (eq_pv (by kernel_rfl)) (eq_cons (a := .bool t214.V) (b := .bool t219.V) (r := (t214.V == t219.V)) (s := true) (by kernel_rfl) (part_pv (by kernel_rfl)) (part_pv (by kernel_rfl)) (eq_pv (by kernel_rfl)) eq_nil))))))))) [124, 126] ?_; clear hs; intro a hs
      refine c_pvs [24, 25] [26] [122, 127] [(129, .bool ((decide (t214.R = t219.R)) && ((t214.H == t219.H) && ((t214.N == t219.N) && ((t214.Z == t219.Z) && ((t214.C == t219.C) && ((t214.V == t219.V) && true)))))))] hs ?_; clear hs; intro a hs
      cases hb223 : ((decide (t214.R = t219.R)) && ((t214.H == t219.H) && ((t214.N == t219.N) && ((t214.Z == t219.Z) && ((t214.C == t219.C) && ((t214.V == t219.V) && true))))))
      ·replace H := ite_f H (ff hb223)
       rw [hb223] at hs
       refine c_pvs [26] [] [] [(130, undef)] hs ?_; clear hs; intro a hs
       refine c_end ?_
       intro wq hbq
       replace hw := hw.behind hbq
       have hbc := Below.refl wq.heap.size wq
       refine p_pvs [27] [] [130] [(131, undef)] hs ?_; clear hs; intro a hs
       refine c_done ⟨bl_of hbq hbc, ?_⟩
       clear hbc hbq
       refine c_seg ?_
       refine c_pvs [28, 29, 30, 31] [] [9, 129, 131] [(134, .bool false), (135, undef)] hs ?_; clear hs; intro a hs
       refine c_end ?_
       intro wq hbq
       replace hw := hw.behind hbq
       have hbc := Below.refl wq.heap.size wq
       refine p_pvs [32] [] [135] [(136, undef)] hs ?_; clear hs; intro a hs
       refine c_done ⟨bl_of hbq hbc, ?_⟩
       clear hbc hbq
       refine c_last ?_
       refine c_pvs [33, 34, 35, 36] [] [134, 136] [(4, .bool false)] hs ?_; clear hs; intro a hs
       refine c_end ?_
       intro wq hbq
       replace hw := hw.behind hbq
       replace hw := hw.up 14
       replace hw := hw.up 14
       replace hw := hw.up 14
       replace hw := hw.up 14
       replace hw := hw.up 14
       replace hw := hw.up 14
       replace hw := hw.up 14
       replace hw := hw.up 14
       replace hw := hw.up 14
       replace hw := hw.up 10
       replace hw := hw.up 14
       replace hw := hw.up 14
       replace hw := hw.up 12
       replace hw := hw.only 13
       exact hJ6 false _ _ hs.kx hw H
      ·replace H := ite_t H hb223
       rw [hb223] at hs
       refine c_pvs [26] [] [] [(130, .pointer (some (⟨g83, 0, none⟩ : Addr)))] hs ?_; clear hs; intro a hs
       refine c_end ?_
       intro wq hbq
       replace hw := hw.behind hbq
       have hbc := Below.refl wq.heap.size wq
       obtain ⟨t225, hx226, H⟩ := bind_some H
       refine p_call hs (by rfl) (machine_Machine_Status.calls (some ⟨g83, 0, none⟩) x53 t225 _ (rSmachine_Machine.of_m (hw.up 1)) hx226) ?_
       rintro e wd227 ⟨rfl, hw228⟩
       refine ⟨_, rfl, ?_⟩
       replace hbc := hw228.below
       replace hw := hw.call hw228
       clear hs; intro a hs; replace hs := hs.rms [130]
       refine c_done ⟨bl_of hbq hbc, ?_⟩
       clear hbc hbq
       refine c_seg ?_
       refine c_pvs [28, 29, 30] [31] [129, 131] [(134, .bool (t225 == 0))] hs ?_; clear hs; intro a hs
       cases hb229 : (t225 == 0)
       ·replace H := ite_f H (beq_eq_false_iff_ne.1 hb229)
        rw [hb229] at hs
        refine c_pvs [31] [] [9] [(135, undef)] hs ?_; clear hs; intro a hs
        refine c_end ?_
        intro wq hbq
        replace hw := hw.behind hbq
        have hbc := Below.refl wq.heap.size wq
        refine p_pvs [32] [] [135] [(136, undef)] hs ?_; clear hs; intro a hs
        refine c_done ⟨bl_of hbq hbc, ?_⟩
        clear hbc hbq
        refine c_last ?_
        refine c_pvs [33, 34, 35, 36] [] [134, 136] [(4, .bool false)] hs ?_; clear hs; intro a hs
        refine c_end ?_
        intro wq hbq
        replace hw := hw.behind hbq
        replace hw := hw.up 14
        replace hw := hw.up 14
        replace hw := hw.up 14
        replace hw := hw.up 14
        replace hw := hw.up 14
        replace hw := hw.up 14
        replace hw := hw.up 14
        replace hw := hw.up 14
        replace hw := hw.up 14
        replace hw := hw.up 10
        replace hw := hw.up 14
        replace hw := hw.up 14
        replace hw := hw.up 12
        replace hw := hw.only 13
        exact hJ6 false _ _ hs.kx hw H
       ·replace H := ite_t H (beq_iff_eq.1 hb229)
        rw [hb229] at hs
        refine c_pvs [31] [] [9] [(135, .pointer (some (⟨g83, 0, none⟩ : Addr)))] hs ?_; clear hs; intro a hs
        refine c_end ?_
        intro wq hbq
        replace hw := hw.behind hbq
        have hbc := Below.refl wq.heap.size wq
        obtain ⟨t231, hx232, H⟩ := bind_some H
        refine p_call hs (by rfl) (machine_Machine_Out.calls (some ⟨g83, 0, none⟩) x53 t231 _ (rSmachine_Machine.of_m (hw.up 1)) hx232) ?_
        rintro e wd235 ⟨Aa233, cc234, rfl, hw236⟩
        refine ⟨_, rfl, ?_⟩
        replace hbc := hw236.below
        replace hw := hw.call hw236
        clear hs; intro a hs; replace hs := hs.rms [135]
        refine c_done ⟨bl_of hbq hbc, ?_⟩
        clear hbc hbq
        refine c_last ?_
        refine c_pvs [33, 34, 35, 36] [] [134, 136] [(4, .bool ((t231.length : Int) == 0))] hs ?_; clear hs; intro a hs
        refine c_end ?_
        intro wq hbq
        replace hw := hw.behind hbq
        replace hw := hw.up 15
        replace hw := hw.up 15
        replace hw := hw.up 15
        replace hw := hw.up 15
        replace hw := hw.up 15
        replace hw := hw.up 15
        replace hw := hw.up 15
        replace hw := hw.up 15
        replace hw := hw.up 15
        replace hw := hw.up 11
        replace hw := hw.up 15
        replace hw := hw.up 15
        replace hw := hw.up 13
        replace hw := hw.only 13
        exact hJ6 ((t231.length : Int) == 0) _ _ hs.kx hw H
   refine go_seq_k fun K110 hK110 => ?_
   have hJ4 : ∀ (v132 : Smachine_Machine) (v133 : Bool) (a : Act) (w : World), Slots a 140 [(7, .int .i64 y41), (8, .int .i64 y43), (9, .pointer (some (⟨g83, 0, none⟩ : Addr))), (13, .pointer (some (⟨g108, 0, none⟩ : Addr))), (88, .bool v133)] → St [] w0 w [mSmachine_Machine (some ⟨g108, 0, none⟩) v132, own 38 (eI .u32) Aa89 cc90 t86, mSmachine_Machine (some ⟨g83, 0, none⟩) x53, box g31 32 [.slice Aa20 t18.Words.length cc21, .slice Aa22 t18.Sites.length cc23, .slice Aa24 t18.Syms.length cc25], own 72 eSapi_Sym none 0 ([] : List Sapi_Sym), own 3 (eI .i64) none 0 ([] : List Int), own 38 (eI .u32) none 0 ([] : List Int), own 38 (eI .u32) Aa20 cc21 t18.Words, own 3 (eI .i64) Aa22 cc23 t18.Sites, own 72 eSapi_Sym Aa24 cc25 t18.Syms, box g6 64 [.int .i64 a1.Base, .int .i64 a1.Mem, .slice A1_1 a1.In.length c1_1], box g2 26 [.slice A0_1 a0.Words.length c0_1, .slice A0_2 a0.Bits.length c0_2, .slice A0_3 a0.Names.length c0_3]] → rivetlaw12_LoadStarts.j4 y41 y43 x53 v132 v133 = some r → K110 a w := by
    intro v132 v133 a w hs hw H
    unfold rivetlaw12_LoadStarts.j4 at H
    refine hK110 _ _ ?_
    refine go_cond hs v133 (fun hc => ?_) fun hc => ?_
    ·replace H := ite_t H hc
     have hb134 := hc
     rw [hb134] at hs
     refine go_sp [7, 8, 9, 13, 88] [(4, .bool false)] hs ?_; clear hs; intro a hs
     refine wp_ret ?_
     refine th_ret ?_
     obtain rfl := Option.some.inj H
     refine ret1 (t := 4) (v := .bool false) hs (by kernel_rfl) (by kernel_rfl) ?_
     exact ⟨rfl, hw.only 0⟩
    ·replace H := ite_f H (ff hc)
     have hb136 := hc
     rw [hb136] at hs
     refine wp_skip ?_
     replace hw := hw.up 11
     replace hw := hw.up 11
     replace hw := hw.up 11
     replace hw := hw.up 11
     replace hw := hw.up 11
     replace hw := hw.up 11
     replace hw := hw.up 11
     replace hw := hw.up 11
     replace hw := hw.up 11
     replace hw := hw.up 11
     replace hw := hw.up 11
     replace hw := hw.up 11
     exact hJ5 v132 _ _ hs.kx hw H
   refine go_region ?_
   refine go_pvs 3 [5] [(58, .bool (!t12))] hs ?_; clear hs; intro a hs
   cases hb111 : (!t12)
   ·replace H := ite_t H (nf hb111)
    rw [hb111] at hs
    refine go_pvs 15 [10, 58] [(70, .bool (t47 != 0))] hs ?_; clear hs; intro a hs
    cases hb112 : (t47 != 0)
    ·replace H := ite_t H (bne_eq_false_iff_eq.1 hb112)
     rw [hb112] at hs
     refine go_pvs 19 [12, 70] [(74, .bool (t87 != 0))] hs ?_; clear hs; intro a hs
     cases hb113 : (t87 != 0)
     ·replace H := ite_t H (bne_eq_false_iff_eq.1 hb113)
      rw [hb113] at hs
      refine go_pvs 23 [14, 74] [(78, .bool (t97 != 0))] hs ?_; clear hs; intro a hs
      cases hb114 : (t97 != 0)
      ·replace H := ite_t H (bne_eq_false_iff_eq.1 hb114)
       rw [hb114] at hs
       refine go_pvs 26 [] [(81, .pointer (some (⟨g108, 0, none⟩ : Addr)))] hs ?_; clear hs; intro a hs
       obtain ⟨Aa115, Aa117, cc118, Aa120, cc121, hw⟩ := mSmachine_Machine.open1 hw
       replace hw : St [] w0 _ [box g108 55 ([.pointer Aa115] ++ eSapi_Regs.enc x103.s ++ [.int .u32 x103.pc, .int .i64 x103.status, .slice Aa117 x103.in'.length cc118, .slice Aa120 x103.out.length cc121]), oM mSmemory_Memory Aa115 x103.Memory, rdo (eI .u32) Aa117 cc118 x103.in', own 38 (eI .u32) Aa120 cc121 x103.out, own 38 (eI .u32) Aa89 cc90 t86, mSmachine_Machine (some ⟨g83, 0, none⟩) x53, box g31 32 [.slice Aa20 t18.Words.length cc21, .slice Aa22 t18.Sites.length cc23, .slice Aa24 t18.Syms.length cc25], own 72 eSapi_Sym none 0 ([] : List Sapi_Sym), own 3 (eI .i64) none 0 ([] : List Int), own 38 (eI .u32) none 0 ([] : List Int), own 38 (eI .u32) Aa20 cc21 t18.Words, own 3 (eI .i64) Aa22 cc23 t18.Sites, own 72 eSapi_Sym Aa24 cc25 t18.Syms, box g6 64 [.int .i64 a1.Base, .int .i64 a1.Mem, .slice A1_1 a1.In.length c1_1], box g2 26 [.slice A0_1 a0.Words.length c0_1, .slice A0_2 a0.Bits.length c0_2, .slice A0_3 a0.Names.length c0_3]] := hw
       replace hw := hw.up 1
       obtain ⟨y123, hy124, H⟩ := bind_some H
       replace hw := St.oM_some hw hy124
       obtain ⟨g125, hAg, hwg⟩ := St.one hw
       clear hw; subst hAg; have hw := hwg; clear hwg
       replace hw : St [] w0 _ [own 78 eSmemory_Memory (some (⟨g125, 0, none⟩ : Addr)) 1 [y123], box g108 55 ([.pointer (some (⟨g125, 0, none⟩ : Addr))] ++ eSapi_Regs.enc x103.s ++ [.int .u32 x103.pc, .int .i64 x103.status, .slice Aa117 x103.in'.length cc118, .slice Aa120 x103.out.length cc121]), rdo (eI .u32) Aa117 cc118 x103.in', own 38 (eI .u32) Aa120 cc121 x103.out, own 38 (eI .u32) Aa89 cc90 t86, mSmachine_Machine (some ⟨g83, 0, none⟩) x53, box g31 32 [.slice Aa20 t18.Words.length cc21, .slice Aa22 t18.Sites.length cc23, .slice Aa24 t18.Syms.length cc25], own 72 eSapi_Sym none 0 ([] : List Sapi_Sym), own 3 (eI .i64) none 0 ([] : List Int), own 38 (eI .u32) none 0 ([] : List Int), own 38 (eI .u32) Aa20 cc21 t18.Words, own 3 (eI .i64) Aa22 cc23 t18.Sites, own 72 eSapi_Sym Aa24 cc25 t18.Syms, box g6 64 [.int .i64 a1.Base, .int .i64 a1.Mem, .slice A1_1 a1.In.length c1_1], box g2 26 [.slice A0_1 a0.Words.length c0_1, .slice A0_2 a0.Bits.length c0_2, .slice A0_3 a0.Names.length c0_3]] := hw
       refine go_run hs (by rfl) (x_bld (g := g108) (o := 0) (p := (⟨g108, 0, none⟩ : Addr)) (v := .pointer (some (⟨g125, 0, none⟩ : Addr))) (hw.up 1)) [81] ?_; clear hs; intro a hs
       refine go_pvs 30 [11] [(84, .int .i64 (w64 (y41.tdiv 4))), (85, .slice Aa89 t86.length cc90)] hs ?_; clear hs; intro a hs
       obtain ⟨ks126, hgks126, hstks126, hbkks126⟩ := hw.lend 1
       obtain ⟨⟨t127, t128⟩, hx129, H⟩ := bind_some H
       refine go_call hs (by rfl) (memory_Memory_Place.calls ks126 (some (⟨g125, 0, none⟩ : Addr)) y123 (w64 (y41.tdiv 4)) Aa89 cc90 t86 (t127, t128) _ hgks126 (fun wz hkz => (Rd.of_own ((hstks126 _ hkz).up 3))) hx129) ?_
       rintro e wd130 ⟨rfl, hw131⟩
       refine ⟨_, rfl, ?_⟩
       replace hw := hbkks126 _ _ hw131
       replace hw : St [] w0 _ [own 78 eSmemory_Memory (some (⟨g125, 0, none⟩ : Addr)) 1 [t128], box g108 55 ([.pointer (some (⟨g125, 0, none⟩ : Addr))] ++ eSapi_Regs.enc x103.s ++ [.int .u32 x103.pc, .int .i64 x103.status, .slice Aa117 x103.in'.length cc118, .slice Aa120 x103.out.length cc121]), rdo (eI .u32) Aa117 cc118 x103.in', own 38 (eI .u32) Aa120 cc121 x103.out, own 38 (eI .u32) Aa89 cc90 t86, mSmachine_Machine (some ⟨g83, 0, none⟩) x53, box g31 32 [.slice Aa20 t18.Words.length cc21, .slice Aa22 t18.Sites.length cc23, .slice Aa24 t18.Syms.length cc25], own 72 eSapi_Sym none 0 ([] : List Sapi_Sym), own 3 (eI .i64) none 0 ([] : List Int), own 38 (eI .u32) none 0 ([] : List Int), own 38 (eI .u32) Aa20 cc21 t18.Words, own 3 (eI .i64) Aa22 cc23 t18.Sites, own 72 eSapi_Sym Aa24 cc25 t18.Syms, box g6 64 [.int .i64 a1.Base, .int .i64 a1.Mem, .slice A1_1 a1.In.length c1_1], box g2 26 [.slice A0_1 a0.Words.length c0_1, .slice A0_2 a0.Bits.length c0_2, .slice A0_3 a0.Names.length c0_3]] := hw
       clear hs; intro a hs; replace hs := hs.rms [82, 84, 85]
       refine go_pvs 33 [78, 86] [(88, .bool (t127 != 0))] hs ?_; clear hs; intro a hs
       refine go_end ?_
       replace hw := St.oM_of (m := mSmemory_Memory) (A := (some (⟨g125, 0, none⟩ : Addr))) (x := t128) hw
       replace hw := hw.up 3
       replace hw := hw.up 3
       replace hw := hw.up 2
       replace hw := hw.up 3
       replace hw := mSmachine_Machine.close (x := (⟨(some t128), x103.s, x103.pc, x103.status, x103.in', x103.out⟩ : Smachine_Machine)) hw
       replace hw := hw.up 11
       replace hw := hw.up 11
       replace hw := hw.up 11
       replace hw := hw.up 11
       replace hw := hw.up 11
       replace hw := hw.up 11
       replace hw := hw.up 11
       replace hw := hw.up 11
       replace hw := hw.up 11
       replace hw := hw.up 11
       replace hw := hw.up 11
       replace hw := hw.up 11
       exact hJ4 (⟨(some t128), x103.s, x103.pc, x103.status, x103.in', x103.out⟩ : Smachine_Machine) (t127 != 0) _ _ hs.kx hw H
      ·replace H := ite_f H (bne_iff_ne.1 hb114)
       rw [hb114] at hs
       refine go_pvs 33 [11, 78] [(88, .bool true)] hs ?_; clear hs; intro a hs
       refine go_end ?_
       replace hw := hw.up 11
       replace hw := hw.up 11
       replace hw := hw.up 11
       replace hw := hw.up 11
       replace hw := hw.up 11
       replace hw := hw.up 11
       replace hw := hw.up 11
       replace hw := hw.up 11
       replace hw := hw.up 11
       replace hw := hw.up 11
       replace hw := hw.up 11
       replace hw := hw.up 11
       exact hJ4 x103 true _ _ hs.kx hw H
     ·replace H := ite_f H (bne_iff_ne.1 hb113)
      rw [hb113] at hs
      refine go_pvs 33 [11, 14, 74] [(88, .bool true)] hs ?_; clear hs; intro a hs
      refine go_end ?_
      replace hw := hw.up 11
      replace hw := hw.up 11
      replace hw := hw.up 11
      replace hw := hw.up 11
      replace hw := hw.up 11
      replace hw := hw.up 11
      replace hw := hw.up 11
      replace hw := hw.up 11
      replace hw := hw.up 11
      replace hw := hw.up 11
      replace hw := hw.up 11
      replace hw := hw.up 11
      exact hJ4 x103 true _ _ hs.kx hw H
    ·replace H := ite_f H (bne_iff_ne.1 hb112)
     rw [hb112] at hs
     refine go_pvs 33 [11, 12, 14, 70] [(88, .bool true)] hs ?_; clear hs; intro a hs
     refine go_end ?_
     replace hw := hw.up 11
     replace hw := hw.up 11
     replace hw := hw.up 11
     replace hw := hw.up 11
     replace hw := hw.up 11
     replace hw := hw.up 11
     replace hw := hw.up 11
     replace hw := hw.up 11
     replace hw := hw.up 11
     replace hw := hw.up 11
     replace hw := hw.up 11
     replace hw := hw.up 11
     exact hJ4 x103 true _ _ hs.kx hw H
   ·replace H := ite_f H (ff (nt hb111))
    rw [hb111] at hs
    refine go_pvs 33 [10, 11, 12, 14, 58] [(88, .bool true)] hs ?_; clear hs; intro a hs
    refine go_end ?_
    replace hw := hw.up 11
    replace hw := hw.up 11
    replace hw := hw.up 11
    replace hw := hw.up 11
    replace hw := hw.up 11
    replace hw := hw.up 11
    replace hw := hw.up 11
    replace hw := hw.up 11
    replace hw := hw.up 11
    replace hw := hw.up 11
    replace hw := hw.up 11
    replace hw := hw.up 11
    exact hJ4 x103 true _ _ hs.kx hw H

end Go.Proofs.YtheccnbamcdpmaaDoor.T12
