/- YtheccnbamcdpmaaDoorT12zLoadShifts: Go functions told as plain ones, each with a proof that its call comes to what is told, part 1. Condition of each: that the plain function comes to a value. -/
import Derived.Test.YtheccnbamcdpmaaDoorT12
import Derived.Test.YtheccnbamcdpmaaDoorEP
import Derived.Test.YtheccnbamcdpmaaDoorProg
namespace Go.Proofs.YtheccnbamcdpmaaDoor.T12
open Go Go.RowKit Go.Proofs.YtheccnbamcdpmaaDoor.E
set_option linter.unusedVariables false
set_option linter.unusedSimpArgs false
structure Srivetlaw12_Parts where
  Words : List Int
  Bits : List Int
  Names : List ByteArray
def okSrivetlaw12_Parts (x : Srivetlaw12_Parts) : Prop := (∀ n ∈ x.Words, In .u32 n) ∧ x.Words.length * 4 ≤ 140737488351232 ∧ (∀ n ∈ x.Bits, In .u8 n) ∧ x.Bits.length * 1 ≤ 140737488351232 ∧ (∀ n ∈ x.Names, n.size ≤ 140737488351232) ∧ x.Names.length * 16 ≤ 140737488351232
def mSrivetlaw12_Parts (A : Option Addr) (x : Srivetlaw12_Parts) : Asn := fun L => ∃ g A1 c1 A2 c2 A3 c3, A = some ⟨g, 0, none⟩ ∧ Cov [box g 26 [.slice A1 x.Words.length c1, .slice A2 x.Bits.length c2, .slice A3 x.Names.length c3], own 38 (eI .u32) A1 c1 x.Words, own 5 (eI .u8) A2 c2 x.Bits, own 9 eS A3 c3 x.Names] L
theorem mSrivetlaw12_Parts.addr {G : List Nat} {w0 w : World} {As : List Asn} {A : Option Addr} {x : Srivetlaw12_Parts} (h : St G w0 w (mSrivetlaw12_Parts A x :: As)) : ∃ g, A = some ⟨g, 0, none⟩ ∧ St G w0 w (mSrivetlaw12_Parts (some ⟨g, 0, none⟩) x :: As) := by
  have h' := h
  obtain ⟨L, ⟨L1, L2, rfl, ⟨g, A1, c1, A2, c2, A3, c3, rfl, hc⟩, hr⟩, hs⟩ := h
  exact ⟨g, rfl, h'⟩
theorem mSrivetlaw12_Parts.open {G : List Nat} {w0 w : World} {As : List Asn} {A : Option Addr} {x : Srivetlaw12_Parts} (h : St G w0 w (mSrivetlaw12_Parts A x :: As)) : ∃ g A1 c1 A2 c2 A3 c3, A = some ⟨g, 0, none⟩ ∧ St G w0 w ([box g 26 [.slice A1 x.Words.length c1, .slice A2 x.Bits.length c2, .slice A3 x.Names.length c3], own 38 (eI .u32) A1 c1 x.Words, own 5 (eI .u8) A2 c2 x.Bits, own 9 eS A3 c3 x.Names] ++ As) := by
  obtain ⟨L, ⟨L1, L2, rfl, ⟨g, A1, c1, A2, c2, A3, c3, rfl, hc⟩, hr⟩, hs⟩ := h
  exact ⟨g, A1, c1, A2, c2, A3, c3, rfl, _, Cov.join hr hc, hs⟩
theorem mSrivetlaw12_Parts.open1 {G : List Nat} {w0 w : World} {As : List Asn} {g : Nat} {x : Srivetlaw12_Parts} (h : St G w0 w (mSrivetlaw12_Parts (some ⟨g, 0, none⟩) x :: As)) : ∃ A1 c1 A2 c2 A3 c3, St G w0 w ([box g 26 [.slice A1 x.Words.length c1, .slice A2 x.Bits.length c2, .slice A3 x.Names.length c3], own 38 (eI .u32) A1 c1 x.Words, own 5 (eI .u8) A2 c2 x.Bits, own 9 eS A3 c3 x.Names] ++ As) := by
  obtain ⟨g', A1, c1, A2, c2, A3, c3, hg, h⟩ := mSrivetlaw12_Parts.open h
  cases hg
  exact ⟨A1, c1, A2, c2, A3, c3, h⟩
theorem mSrivetlaw12_Parts.close {G : List Nat} {w0 w : World} {As : List Asn} {g : Nat} {A1 : Option Addr} {c1 : Nat} {A2 : Option Addr} {c2 : Nat} {A3 : Option Addr} {c3 : Nat} {x : Srivetlaw12_Parts} (h : St G w0 w ([box g 26 [.slice A1 x.Words.length c1, .slice A2 x.Bits.length c2, .slice A3 x.Names.length c3], own 38 (eI .u32) A1 c1 x.Words, own 5 (eI .u8) A2 c2 x.Bits, own 9 eS A3 c3 x.Names] ++ As)) : St G w0 w (mSrivetlaw12_Parts (some ⟨g, 0, none⟩) x :: As) := by
  obtain ⟨L, hc, hs⟩ := h
  obtain ⟨L1, L2, rfl, h1, h2⟩ := Cov.split (Gs := [box g 26 [.slice A1 x.Words.length c1, .slice A2 x.Bits.length c2, .slice A3 x.Names.length c3], own 38 (eI .u32) A1 c1 x.Words, own 5 (eI .u8) A2 c2 x.Bits, own 9 eS A3 c3 x.Names]) hc
  exact ⟨_, ⟨L1, L2, rfl, ⟨g, A1, c1, A2, c2, A3, c3, rfl, h1⟩, h2⟩, hs⟩
/-! rivet/rivetlaw12.LoadShifts: function 4 -/
noncomputable def rivetlaw12_LoadShifts.j6 (v75 : Int) (v107 : Int) : Option (Int × Int ⊕ (Ex Bool Unit)) := some (.inl (v107, w64 (v75 + 1)))
noncomputable def rivetlaw12_LoadShifts.j5 (v75 : Int) (v90 : Int) (v103 : Bool) : Option (Int × Int ⊕ (Ex Bool Unit)) := (if v103 = true then some (.inr (.ret false)) else rivetlaw12_LoadShifts.j6 v75 v90)
noncomputable def rivetlaw12_LoadShifts.j4 (v75 : Int) (t52 : List Int) (t42 : List Int) (y39 : Int) (y37 : Int) (t14 : Sapi_Obj) (v90 : Int) (v91 : Int) : Option (Int × Int ⊕ (Ex Bool Unit)) := (if 0 ≤ v75 ∧ v75 < (t52.length : Int) then (if 0 ≤ v75 ∧ v75 < (t42.length : Int) then (if (wu32 ((ix (eI .u32).d t52 v75) - (ix (eI .u32).d t42 v75))) = v91 then (if v91 = 0 then (if y39 = y37 then rivetlaw12_LoadShifts.j5 v75 v90 false else (if 0 ≤ v75 ∧ v75 < (t42.length : Int) then (if 0 ≤ v75 ∧ v75 < (t14.Words.length : Int) then rivetlaw12_LoadShifts.j5 v75 v90 ((ix (eI .u32).d t42 v75) != (ix (eI .u32).d t14.Words v75)) else none) else none)) else rivetlaw12_LoadShifts.j5 v75 v90 false) else rivetlaw12_LoadShifts.j5 v75 v90 true) else none) else none)
noncomputable def rivetlaw12_LoadShifts.j3 (v75 : Int) (t52 : List Int) (t42 : List Int) (y39 : Int) (y37 : Int) (t14 : Sapi_Obj) (v74 : Int) (v86 : Bool) : Option (Int × Int ⊕ (Ex Bool Unit)) := (if v86 = true then rivetlaw12_LoadShifts.j4 v75 t52 t42 y39 y37 t14 (w64 (v74 + 1)) (wu32 (w64 (y39 - y37))) else rivetlaw12_LoadShifts.j4 v75 t52 t42 y39 y37 t14 v74 0)
noncomputable def rivetlaw12_LoadShifts.b73 (t42 : List Int) (t14 : Sapi_Obj) (t52 : List Int) (y39 : Int) (y37 : Int) (v74 : Int) (v75 : Int) : Option (Int × Int ⊕ (Ex Bool Unit)) := (if v75 < (t42.length : Int) then (if v74 < (t14.Sites.length : Int) then (if 0 ≤ v74 ∧ v74 < (t14.Sites.length : Int) then rivetlaw12_LoadShifts.j3 v75 t52 t42 y39 y37 t14 v74 ((ix (eI .i64).d t14.Sites v74) == v75) else none) else rivetlaw12_LoadShifts.j3 v75 t52 t42 y39 y37 t14 v74 false) else some (.inr (.done ())))
noncomputable def rivetlaw12_LoadShifts.j8 : Option Bool := some false
noncomputable def rivetlaw12_LoadShifts.j9 (v158 : Bool) : Option Bool := some v158
noncomputable def rivetlaw12_LoadShifts.j10 : Option Bool := some false
noncomputable def rivetlaw12_LoadShifts.j11 : Option Bool := some false
noncomputable def rivetlaw12_LoadShifts.j7 (t14 : Sapi_Obj) (y37 : Int) : Option Bool := ((load_Image t14 (w64 (y37 + 2))).bind fun ⟨t111, t112⟩ => (((load_Image t14 16388).bind fun ⟨t121, t122⟩ => (((load_Machine t14 8 (w64 (1 + (t14.Words.length : Int))) ([] : List Int)).bind fun ⟨t131, t132⟩ => ((match t131 with | none => ((load_Machine t14 8 (w64 (2 + (t14.Words.length : Int))) ([] : List Int)).bind fun ⟨t141, t142⟩ => ((match t141 with | none => (if t112 = 11 then (if t122 = 11 then (if t132 = 11 then rivetlaw12_LoadShifts.j8 else rivetlaw12_LoadShifts.j8) else rivetlaw12_LoadShifts.j8) else rivetlaw12_LoadShifts.j8) | some x148 => (if t112 = 11 then (if t122 = 11 then (if t132 = 11 then rivetlaw12_LoadShifts.j9 (t142 == 0) else rivetlaw12_LoadShifts.j9 false) else rivetlaw12_LoadShifts.j9 false) else rivetlaw12_LoadShifts.j9 false)))) | some x138 => ((load_Machine t14 8 (w64 (2 + (t14.Words.length : Int))) ([] : List Int)).bind fun ⟨t162, t163⟩ => ((match t162 with | none => (if t112 = 11 then (if t122 = 11 then rivetlaw12_LoadShifts.j10 else rivetlaw12_LoadShifts.j10) else rivetlaw12_LoadShifts.j10) | some x169 => (if t112 = 11 then (if t122 = 11 then rivetlaw12_LoadShifts.j11 else rivetlaw12_LoadShifts.j11) else rivetlaw12_LoadShifts.j11)))))))))))
noncomputable def rivetlaw12_LoadShifts.j2 (t42 : List Int) (t14 : Sapi_Obj) (t52 : List Int) (y39 : Int) (y37 : Int) : Option Bool := ((loopO (fun (σ : Int × Int) => rivetlaw12_LoadShifts.b73 t42 t14 t52 y39 y37 σ.1 σ.2) (0, 0)).bind fun e => match e with | .ret x => some x | .done e => rivetlaw12_LoadShifts.j7 t14 y37)
noncomputable def rivetlaw12_LoadShifts.j1 (t42 : List Int) (t14 : Sapi_Obj) (t52 : List Int) (y39 : Int) (y37 : Int) (v66 : Bool) : Option Bool := (if v66 = true then some false else rivetlaw12_LoadShifts.j2 t42 t14 t52 y39 y37)
noncomputable def rivetlaw12_LoadShifts (a0 : Srivetlaw12_Parts) (a1 : Int) (a2 : Int) : Option Bool := ((rivetlaw12_shown).bind fun t8 => (((rivetref09_Fit a0.Words a0.Bits a0.Names).bind fun t14 => ((nm (w64 (4 * ((w64 a1).tmod 4097))) fun y37 => (nm (w64 (4 * ((w64 a2).tmod 4097))) fun y39 => ((load_Image t14 y37).bind fun ⟨t42, t43⟩ => (((load_Image t14 y39).bind fun ⟨t52, t53⟩ => ((if t8 = true then (if t43 = 0 then (if t53 = 0 then (if (t42.length : Int) = (t14.Words.length : Int) then rivetlaw12_LoadShifts.j1 t42 t14 t52 y39 y37 ((t52.length : Int) != (t42.length : Int)) else rivetlaw12_LoadShifts.j1 t42 t14 t52 y39 y37 true) else rivetlaw12_LoadShifts.j1 t42 t14 t52 y39 y37 true) else rivetlaw12_LoadShifts.j1 t42 t14 t52 y39 y37 true) else rivetlaw12_LoadShifts.j1 t42 t14 t52 y39 y37 true)))))))))))
set_option maxRecDepth 100000 in
set_option maxHeartbeats 4000000 in
theorem rivetlaw12_LoadShifts.calls (a0 : Srivetlaw12_Parts) (A0_1 : Option Addr) (c0_1 : Nat) (A0_2 : Option Addr) (c0_2 : Nat) (A0_3 : Option Addr) (c0_3 : Nat) (a1 : Int) (a2 : Int) (r : Bool) (w0 : World) (hr0_1 : Rd w0 (eI .u32) A0_1 c0_1 a0.Words) (hr0_2 : Rd w0 (eI .u8) A0_2 c0_2 a0.Bits) (hr0_3 : Rd w0 eS A0_3 c0_3 a0.Names) (H : rivetlaw12_LoadShifts a0 a1 a2 = some r) :
    Calls Tryd.prog 4 #[.agg #[.slice A0_1 a0.Words.length c0_1, .slice A0_2 a0.Bits.length c0_2, .slice A0_3 a0.Names.length c0_3], .int .u16 a1, .int .u16 a2] w0 fun e w' => e = .returned (.bool r) ∧ St [] w0 w' [] := by
 have hw : St [] w0 w0 [] := St.nil w0
 unfold rivetlaw12_LoadShifts at H
 refine go_fn Tryd.func4 rfl Tryd.ntmps4 ?_; intro a hs
 refine go_sk fun K1 hK1 => ?_
 obtain ⟨g2, wd3, hx4, hw⟩ := x_boxc (P := Tryd.prog) (elem := 26) (v := (Operand.tmp 0)) (ty := 0) (cs := [.slice A0_1 a0.Words.length c0_1, .slice A0_2 a0.Bits.length c0_2, .slice A0_3 a0.Names.length c0_3]) hs hw (by kernel_rfl)
 refine go_run hs (by rfl) hx4 [0] ?_; clear hs; intro a hs
 refine go_pvs 2 [] [] hs ?_; clear hs; intro a hs
 refine go_end (hK1 _ _ ?_)
 refine go_sk fun K6 hK6 => ?_
 obtain ⟨t8, hx9, H⟩ := bind_some H
 refine go_call hs (by rfl) (rivetlaw12_shown.calls t8 _ hx9) ?_
 rintro e wd10 ⟨rfl, hw11⟩
 refine ⟨_, rfl, ?_⟩
 replace hw := hw.call hw11
 clear hs; intro a hs
 refine go_pvs 2 [26] [(7, .bool t8)] hs ?_; clear hs; intro a hs
 refine go_end (hK6 _ _ ?_)
 refine go_sk fun K12 hK12 => ?_
 refine go_pvs 1 [] [(27, .pointer (some (⟨g2, 0, none⟩ : Addr)))] hs ?_; clear hs; intro a hs
 refine go_run hs (by rfl) (x_bld (g := g2) (o := 0) (p := (⟨g2, 0, none⟩ : Addr)) (v := .slice A0_1 a0.Words.length c0_1) (hw.up 0)) [27] ?_; clear hs; intro a hs
 refine go_pvs 3 [] [(29, .pointer (some (⟨g2, 1, none⟩ : Addr)))] hs ?_; clear hs; intro a hs
 refine go_run hs (by rfl) (x_bld (g := g2) (o := 1) (p := (⟨g2, 1, none⟩ : Addr)) (v := .slice A0_2 a0.Bits.length c0_2) (hw.up 0)) [29] ?_; clear hs; intro a hs
 refine go_pvs 5 [3] [(31, .pointer (some (⟨g2, 2, none⟩ : Addr)))] hs ?_; clear hs; intro a hs
 refine go_run hs (by rfl) (x_bld (g := g2) (o := 2) (p := (⟨g2, 2, none⟩ : Addr)) (v := .slice A0_3 a0.Names.length c0_3) (hw.up 0)) [31] ?_; clear hs; intro a hs
 obtain ⟨t14, hx15, H⟩ := bind_some H
 refine go_call hs (by rfl) (rivetref09_Fit.calls A0_1 c0_1 a0.Words A0_2 c0_2 a0.Bits A0_3 c0_3 a0.Names t14 _ (hr0_1.old hw) (hr0_2.old hw) (hr0_3.old hw) hx15) ?_
 rintro e wd22 ⟨Aa16, cc17, Aa18, cc19, Aa20, cc21, rfl, hw23⟩
 refine ⟨_, rfl, ?_⟩
 replace hw := hw.call hw23
 clear hs; intro a hs; replace hs := hs.rms [28, 30, 32]
 obtain ⟨g27, wd28, hx29, hw⟩ := x_allocc (P := Tryd.prog) (elem := 32) (ty := 0) (z := .agg #[.slice none 0 0, .slice none 0 0, .slice none 0 0]) (cs := [.slice none 0 0, .slice none 0 0, .slice none 0 0]) hs hw (by kernel_rfl) (by kernel_rfl)
 refine go_run hs (by rfl) hx29 [] ?_; clear hs; intro a hs
 replace hw := St.own_nil hw 38 (eI .u32)
 replace hw := St.own_nil hw 3 (eI .i64)
 replace hw := St.own_nil hw 72 eSapi_Sym
 replace hw : St [] w0 wd28 [own 72 eSapi_Sym none 0 ([] : List Sapi_Sym), own 3 (eI .i64) none 0 ([] : List Int), own 38 (eI .u32) none 0 ([] : List Int), box g27 32 [.slice none ([] : List Int).length 0, .slice none ([] : List Int).length 0, .slice none ([] : List Sapi_Sym).length 0], own 38 (eI .u32) Aa16 cc17 t14.Words, own 3 (eI .i64) Aa18 cc19 t14.Sites, own 72 eSapi_Sym Aa20 cc21 t14.Syms, box g2 26 [.slice A0_1 a0.Words.length c0_1, .slice A0_2 a0.Bits.length c0_2, .slice A0_3 a0.Names.length c0_3]] := hw
 replace hw := hw.up 3
 obtain ⟨wd34, hx35, hw⟩ := x_bput (P := Tryd.prog) (ty := 0) (t := 32) (y := (Operand.tmp 8)) (z := (Operand.tmp 33)) (o := 0) (p := (⟨g27, 0, none⟩ : Addr)) (v := .agg #[.slice Aa16 t14.Words.length cc17, .slice Aa18 t14.Sites.length cc19, .slice Aa20 t14.Syms.length cc21]) (vs := [.slice Aa16 t14.Words.length cc17, .slice Aa18 t14.Sites.length cc19, .slice Aa20 t14.Syms.length cc21]) (cs' := [.slice Aa16 t14.Words.length cc17, .slice Aa18 t14.Sites.length cc19, .slice Aa20 t14.Syms.length cc21]) hs hw (by kernel_rfl) rfl (by kernel_rfl) rfl (by kernel_rfl) (by kernel_rfl) (by simp [Value.oneCell']) rfl
 refine go_unit hs (by rfl) hx35 [33] ?_; clear hs; intro a hs
 refine go_end (hK12 _ _ ?_)
 refine go_sp [1] [(9, .int .i64 (w64 (4 * ((w64 a1).tmod 4097))))] hs ?_; clear hs; intro a hs
 obtain ⟨y37, hy37, H⟩ := nm_some H
 replace hs : Slots a 189 [(2, .int .u16 a2), (7, .bool t8), (8, .pointer (some (⟨g27, 0, none⟩ : Addr))), (9, .int .i64 y37)] := by rw [hy37]; exact hs.kx
 refine go_sp [2] [(10, .int .i64 (w64 (4 * ((w64 a2).tmod 4097))))] hs ?_; clear hs; intro a hs
 obtain ⟨y39, hy39, H⟩ := nm_some H
 replace hs : Slots a 189 [(7, .bool t8), (8, .pointer (some (⟨g27, 0, none⟩ : Addr))), (9, .int .i64 y37), (10, .int .i64 y39)] := by rw [hy39]; exact hs.kx
 refine go_sk fun K40 hK40 => ?_
 refine go_run hs (by rfl) (x_blds (g := g27) (o := 0) (p := (⟨g27, 0, none⟩ : Addr)) (vs := [.slice Aa16 t14.Words.length cc17, .slice Aa18 t14.Sites.length cc19, .slice Aa20 t14.Syms.length cc21]) (hw.up 0)) [] ?_; clear hs; intro a hs
 refine go_pvs 2 [] [(44, .int .i64 y37)] hs ?_; clear hs; intro a hs
 obtain ⟨⟨t42, t43⟩, hx44, H⟩ := bind_some H
 refine go_call hs (by rfl) (load_Image.calls t14 Aa16 cc17 Aa18 cc19 Aa20 cc21 y37 (t42, t43) _ (Rd.of_own (hw.up 4)) (Rd.of_own (hw.up 5)) (Rd.of_own (hw.up 6)) hx44) ?_
 rintro e wd47 ⟨Aa45, cc46, rfl, hw48⟩
 refine ⟨_, rfl, ?_⟩
 replace hw := hw.call hw48
 clear hs; intro a hs; replace hs := hs.rms [43, 44]
 refine go_pvs 8 [45] [(11, .slice Aa45 t42.length cc46), (12, .int .i64 t43)] hs ?_; clear hs; intro a hs
 refine go_end (hK40 _ _ ?_)
 refine go_sk fun K50 hK50 => ?_
 refine go_run hs (by rfl) (x_blds (g := g27) (o := 0) (p := (⟨g27, 0, none⟩ : Addr)) (vs := [.slice Aa16 t14.Words.length cc17, .slice Aa18 t14.Sites.length cc19, .slice Aa20 t14.Syms.length cc21]) (hw.up 1)) [] ?_; clear hs; intro a hs
 refine go_pvs 2 [] [(50, .int .i64 y39)] hs ?_; clear hs; intro a hs
 obtain ⟨⟨t52, t53⟩, hx54, H⟩ := bind_some H
 refine go_call hs (by rfl) (load_Image.calls t14 Aa16 cc17 Aa18 cc19 Aa20 cc21 y39 (t52, t53) _ (Rd.of_own (hw.up 5)) (Rd.of_own (hw.up 6)) (Rd.of_own (hw.up 7)) hx54) ?_
 rintro e wd57 ⟨Aa55, cc56, rfl, hw58⟩
 refine ⟨_, rfl, ?_⟩
 replace hw := hw.call hw58
 clear hs; intro a hs; replace hs := hs.rms [49, 50]
 refine go_pvs 8 [51] [(13, .slice Aa55 t52.length cc56), (14, .int .i64 t53)] hs ?_; clear hs; intro a hs
 refine go_end (hK50 _ _ ?_)
 refine go_seq_k fun K60 hK60 => ?_
 have hJ2 : ∀ (a : Act) (w : World), Slots a 189 [(8, .pointer (some (⟨g27, 0, none⟩ : Addr))), (9, .int .i64 y37), (10, .int .i64 y39), (11, .slice Aa45 t42.length cc46), (13, .slice Aa55 t52.length cc56)] → St [] w0 w [own 38 (eI .u32) Aa55 cc56 t52, own 38 (eI .u32) Aa45 cc46 t42, box g27 32 [.slice Aa16 t14.Words.length cc17, .slice Aa18 t14.Sites.length cc19, .slice Aa20 t14.Syms.length cc21], own 72 eSapi_Sym none 0 ([] : List Sapi_Sym), own 3 (eI .i64) none 0 ([] : List Int), own 38 (eI .u32) none 0 ([] : List Int), own 38 (eI .u32) Aa16 cc17 t14.Words, own 3 (eI .i64) Aa18 cc19 t14.Sites, own 72 eSapi_Sym Aa20 cc21 t14.Syms, box g2 26 [.slice A0_1 a0.Words.length c0_1, .slice A0_2 a0.Bits.length c0_2, .slice A0_3 a0.Names.length c0_3]] → rivetlaw12_LoadShifts.j2 t42 t14 t52 y39 y37 = some r → K60 a w := by
  intro a w hs hw H
  unfold rivetlaw12_LoadShifts.j2 at H
  refine hK60 _ _ ?_
  refine go_sp [] [(15, .int .i64 0)] hs ?_; clear hs; intro a hs
  refine go_seq_k fun K71 hK71 => ?_
  refine go_sp [] [(16, .int .i64 0)] hs ?_; clear hs; intro a hs
  refine wp_block ?_
  obtain ⟨e73, hl73, HX73⟩ := bind_some H
  have hJ7 : ∀ (a : Act) (w : World), Slots a 189 [(8, .pointer (some (⟨g27, 0, none⟩ : Addr))), (9, .int .i64 y37)] → St [] w0 w [own 38 (eI .u32) Aa55 cc56 t52, own 38 (eI .u32) Aa45 cc46 t42, box g27 32 [.slice Aa16 t14.Words.length cc17, .slice Aa18 t14.Sites.length cc19, .slice Aa20 t14.Syms.length cc21], own 72 eSapi_Sym none 0 ([] : List Sapi_Sym), own 3 (eI .i64) none 0 ([] : List Int), own 38 (eI .u32) none 0 ([] : List Int), own 38 (eI .u32) Aa16 cc17 t14.Words, own 3 (eI .i64) Aa18 cc19 t14.Sites, own 72 eSapi_Sym Aa20 cc21 t14.Syms, box g2 26 [.slice A0_1 a0.Words.length c0_1, .slice A0_2 a0.Bits.length c0_2, .slice A0_3 a0.Names.length c0_3]] → rivetlaw12_LoadShifts.j7 t14 y37 = some r → K71 a w := by
   intro a w hs hw H
   unfold rivetlaw12_LoadShifts.j7 at H
   refine hK71 _ _ ?_
   refine go_sk fun K109 hK109 => ?_
   refine go_run hs (by rfl) (x_blds (g := g27) (o := 0) (p := (⟨g27, 0, none⟩ : Addr)) (vs := [.slice Aa16 t14.Words.length cc17, .slice Aa18 t14.Sites.length cc19, .slice Aa20 t14.Syms.length cc21]) (hw.up 2)) [] ?_; clear hs; intro a hs
   refine go_pvs 3 [9] [(140, .int .i64 (w64 (y37 + 2)))] hs ?_; clear hs; intro a hs
   obtain ⟨⟨t111, t112⟩, hx113, H⟩ := bind_some H
   refine go_call hs (by rfl) (load_Image.calls t14 Aa16 cc17 Aa18 cc19 Aa20 cc21 (w64 (y37 + 2)) (t111, t112) _ (Rd.of_own (hw.up 6)) (Rd.of_own (hw.up 7)) (Rd.of_own (hw.up 8)) hx113) ?_
   rintro e wd116 ⟨Aa114, cc115, rfl, hw117⟩
   refine ⟨_, rfl, ?_⟩
   replace hw := hw.call hw117
   clear hs; intro a hs; replace hs := hs.rms [138, 140]
   refine go_pvs 9 [141] [(19, .int .i64 t112)] hs ?_; clear hs; intro a hs
   refine go_end (hK109 _ _ ?_)
   refine go_sk fun K119 hK119 => ?_
   refine go_run hs (by rfl) (x_blds (g := g27) (o := 0) (p := (⟨g27, 0, none⟩ : Addr)) (vs := [.slice Aa16 t14.Words.length cc17, .slice Aa18 t14.Sites.length cc19, .slice Aa20 t14.Syms.length cc21]) (hw.up 3)) [] ?_; clear hs; intro a hs
   obtain ⟨⟨t121, t122⟩, hx123, H⟩ := bind_some H
   refine go_call hs (by rfl) (load_Image.calls t14 Aa16 cc17 Aa18 cc19 Aa20 cc21 16388 (t121, t122) _ (Rd.of_own (hw.up 7)) (Rd.of_own (hw.up 8)) (Rd.of_own (hw.up 9)) hx123) ?_
   rintro e wd126 ⟨Aa124, cc125, rfl, hw127⟩
   refine ⟨_, rfl, ?_⟩
   replace hw := hw.call hw127
   clear hs; intro a hs; replace hs := hs.rms [145]
   refine go_pvs 7 [146] [(21, .int .i64 t122)] hs ?_; clear hs; intro a hs
   refine go_end (hK119 _ _ ?_)
   refine go_sk fun K129 hK129 => ?_
   refine go_run hs (by rfl) (x_blds (g := g27) (o := 0) (p := (⟨g27, 0, none⟩ : Addr)) (vs := [.slice Aa16 t14.Words.length cc17, .slice Aa18 t14.Sites.length cc19, .slice Aa20 t14.Syms.length cc21]) (hw.up 4)) [] ?_; clear hs; intro a hs
   refine go_pvs 2 [] [(151, .pointer (some (⟨g27, 0, none⟩ : Addr)))] hs ?_; clear hs; intro a hs
   refine go_run hs (by rfl) (x_bld (g := g27) (o := 0) (p := (⟨g27, 0, none⟩ : Addr)) (v := .slice Aa16 t14.Words.length cc17) (hw.up 4)) [151] ?_; clear hs; intro a hs
   refine go_pvs 5 [152] [(154, .int .i64 (w64 (1 + (t14.Words.length : Int))))] hs ?_; clear hs; intro a hs
   obtain ⟨⟨t131, t132⟩, hx133, H⟩ := bind_some H
   refine go_call hs (by rfl) (load_Machine.calls t14 Aa16 cc17 Aa18 cc19 Aa20 cc21 8 (w64 (1 + (t14.Words.length : Int))) none 0 ([] : List Int) (t131, t132) _ (Rd.of_own (hw.up 8)) (Rd.of_own (hw.up 9)) (Rd.of_own (hw.up 10)) (Rd.nil _ _) hx133) ?_
   rintro e wd135 ⟨Aa134, rfl, hw136⟩
   refine ⟨_, rfl, ?_⟩
   replace hw := hw.call hw136
   clear hs; intro a hs; replace hs := hs.rms [150, 154]
   rcases t131 with _ | x138
   ·obtain ⟨hAg, hwg⟩ := St.oM_none hw
    clear hw; subst hAg; have hw := hwg; clear hwg
    refine go_pvs 11 [155] [(22, .pointer none), (23, .int .i64 t132)] hs ?_; clear hs; intro a hs
    refine go_end (hK129 _ _ ?_)
    refine go_sk fun K139 hK139 => ?_
    refine go_run hs (by rfl) (x_blds (g := g27) (o := 0) (p := (⟨g27, 0, none⟩ : Addr)) (vs := [.slice Aa16 t14.Words.length cc17, .slice Aa18 t14.Sites.length cc19, .slice Aa20 t14.Syms.length cc21]) (hw.up 4)) [] ?_; clear hs; intro a hs
    refine go_pvs 2 [8] [(160, .pointer (some (⟨g27, 0, none⟩ : Addr)))] hs ?_; clear hs; intro a hs
    refine go_run hs (by rfl) (x_bld (g := g27) (o := 0) (p := (⟨g27, 0, none⟩ : Addr)) (v := .slice Aa16 t14.Words.length cc17) (hw.up 4)) [160] ?_; clear hs; intro a hs
    refine go_pvs 5 [161] [(163, .int .i64 (w64 (2 + (t14.Words.length : Int))))] hs ?_; clear hs; intro a hs
    obtain ⟨⟨t141, t142⟩, hx143, H⟩ := bind_some H
    refine go_call hs (by rfl) (load_Machine.calls t14 Aa16 cc17 Aa18 cc19 Aa20 cc21 8 (w64 (2 + (t14.Words.length : Int))) none 0 ([] : List Int) (t141, t142) _ (Rd.of_own (hw.up 8)) (Rd.of_own (hw.up 9)) (Rd.of_own (hw.up 10)) (Rd.nil _ _) hx143) ?_
    rintro e wd145 ⟨Aa144, rfl, hw146⟩
    refine ⟨_, rfl, ?_⟩
    replace hw := hw.call hw146
    clear hs; intro a hs; replace hs := hs.rms [159, 163]
    rcases t141 with _ | x148
    ·obtain ⟨hAg, hwg⟩ := St.oM_none hw
     clear hw; subst hAg; have hw := hwg; clear hwg
     refine go_pvs 11 [164] [(24, .pointer none), (25, .int .i64 t142)] hs ?_; clear hs; intro a hs
     refine go_end (hK139 _ _ ?_)
     refine go_seq_k fun K149 hK149 => ?_
     have hJ8 : ∀ (a : Act) (w : World), Slots a 189 [(6, .bool false)] → St [] w0 w [own 38 (eI .u32) Aa124 cc125 t121, own 38 (eI .u32) Aa114 cc115 t111, own 38 (eI .u32) Aa55 cc56 t52, own 38 (eI .u32) Aa45 cc46 t42, box g27 32 [.slice Aa16 t14.Words.length cc17, .slice Aa18 t14.Sites.length cc19, .slice Aa20 t14.Syms.length cc21], own 72 eSapi_Sym none 0 ([] : List Sapi_Sym), own 3 (eI .i64) none 0 ([] : List Int), own 38 (eI .u32) none 0 ([] : List Int), own 38 (eI .u32) Aa16 cc17 t14.Words, own 3 (eI .i64) Aa18 cc19 t14.Sites, own 72 eSapi_Sym Aa20 cc21 t14.Syms, box g2 26 [.slice A0_1 a0.Words.length c0_1, .slice A0_2 a0.Bits.length c0_2, .slice A0_3 a0.Names.length c0_3]] → rivetlaw12_LoadShifts.j8 = some r → K149 a w := by
      intro a w hs hw H
      unfold rivetlaw12_LoadShifts.j8 at H
      refine hK149 _ _ ?_
      refine wp_ret ?_
      obtain rfl := Option.some.inj H
      refine ret1 (t := 6) (v := .bool false) hs (by kernel_rfl) (by kernel_rfl) ?_
      exact ⟨rfl, hw.only 0⟩
     refine go_region ?_
     refine go_pvs 3 [19] [(169, .bool (t112 == 11))] hs ?_; clear hs; intro a hs
     cases hb150 : (t112 == 11)
     ·replace H := ite_f H (beq_eq_false_iff_ne.1 hb150)
      rw [hb150] at hs
      refine go_pvs 23 [21, 22, 23, 24, 25, 169] [(6, .bool false)] hs ?_; clear hs; intro a hs
      refine go_end ?_
      replace hw := hw.up 11
      replace hw := hw.up 11
      replace hw := hw.up 11
      replace hw := hw.up 11
      replace hw := hw.up 11
      replace hw := hw.up 11
      replace hw := hw.up 11
      replace hw := hw.up 11
      replace hw := hw.up 11
      replace hw := hw.up 11
      replace hw := hw.up 11
      replace hw := hw.up 11
      exact hJ8 _ _ hs.kx hw H
     ·replace H := ite_t H (beq_iff_eq.1 hb150)
      rw [hb150] at hs
      refine go_pvs 7 [21, 169] [(173, .bool (t122 == 11))] hs ?_; clear hs; intro a hs
      cases hb151 : (t122 == 11)
      ·replace H := ite_f H (beq_eq_false_iff_ne.1 hb151)
       rw [hb151] at hs
       refine go_pvs 23 [22, 23, 24, 25, 173] [(6, .bool false)] hs ?_; clear hs; intro a hs
       refine go_end ?_
       replace hw := hw.up 11
       replace hw := hw.up 11
       replace hw := hw.up 11
       replace hw := hw.up 11
       replace hw := hw.up 11
       replace hw := hw.up 11
       replace hw := hw.up 11
       replace hw := hw.up 11
       replace hw := hw.up 11
       replace hw := hw.up 11
       replace hw := hw.up 11
       replace hw := hw.up 11
       exact hJ8 _ _ hs.kx hw H
      ·replace H := ite_t H (beq_iff_eq.1 hb151)
       rw [hb151] at hs
       refine go_pvs 15 [22, 23, 173] [(181, .bool (t132 == 11))] hs ?_; clear hs; intro a hs
       cases hb152 : (t132 == 11)
       ·replace H := ite_f H (beq_eq_false_iff_ne.1 hb152)
        rw [hb152] at hs
        refine go_pvs 23 [24, 25, 181] [(6, .bool false)] hs ?_; clear hs; intro a hs
        refine go_end ?_
        replace hw := hw.up 11
        replace hw := hw.up 11
        replace hw := hw.up 11
        replace hw := hw.up 11
        replace hw := hw.up 11
        replace hw := hw.up 11
        replace hw := hw.up 11
        replace hw := hw.up 11
        replace hw := hw.up 11
        replace hw := hw.up 11
        replace hw := hw.up 11
        replace hw := hw.up 11
        exact hJ8 _ _ hs.kx hw H
       ·replace H := ite_t H (beq_iff_eq.1 hb152)
        rw [hb152] at hs
        refine go_pvs 23 [24, 25, 181] [(6, .bool false)] hs ?_; clear hs; intro a hs
        refine go_end ?_
        replace hw := hw.up 11
        replace hw := hw.up 11
        replace hw := hw.up 11
        replace hw := hw.up 11
        replace hw := hw.up 11
        replace hw := hw.up 11
        replace hw := hw.up 11
        replace hw := hw.up 11
        replace hw := hw.up 11
        replace hw := hw.up 11
        replace hw := hw.up 11
        replace hw := hw.up 11
        exact hJ8 _ _ hs.kx hw H
    ·replace hw : St [] w0 _ [mSmachine_Machine Aa144 x148, own 38 (eI .u32) Aa124 cc125 t121, own 38 (eI .u32) Aa114 cc115 t111, own 38 (eI .u32) Aa55 cc56 t52, own 38 (eI .u32) Aa45 cc46 t42, box g27 32 [.slice Aa16 t14.Words.length cc17, .slice Aa18 t14.Sites.length cc19, .slice Aa20 t14.Syms.length cc21], own 72 eSapi_Sym none 0 ([] : List Sapi_Sym), own 3 (eI .i64) none 0 ([] : List Int), own 38 (eI .u32) none 0 ([] : List Int), own 38 (eI .u32) Aa16 cc17 t14.Words, own 3 (eI .i64) Aa18 cc19 t14.Sites, own 72 eSapi_Sym Aa20 cc21 t14.Syms, box g2 26 [.slice A0_1 a0.Words.length c0_1, .slice A0_2 a0.Bits.length c0_2, .slice A0_3 a0.Names.length c0_3]] := hw
     obtain ⟨g153, hAg, hwg⟩ := mSmachine_Machine.addr hw
     clear hw; subst hAg; have hw := hwg; clear hwg
     replace hw : St [] w0 _ [mSmachine_Machine (some ⟨g153, 0, none⟩) x148, own 38 (eI .u32) Aa124 cc125 t121, own 38 (eI .u32) Aa114 cc115 t111, own 38 (eI .u32) Aa55 cc56 t52, own 38 (eI .u32) Aa45 cc46 t42, box g27 32 [.slice Aa16 t14.Words.length cc17, .slice Aa18 t14.Sites.length cc19, .slice Aa20 t14.Syms.length cc21], own 72 eSapi_Sym none 0 ([] : List Sapi_Sym), own 3 (eI .i64) none 0 ([] : List Int), own 38 (eI .u32) none 0 ([] : List Int), own 38 (eI .u32) Aa16 cc17 t14.Words, own 3 (eI .i64) Aa18 cc19 t14.Sites, own 72 eSapi_Sym Aa20 cc21 t14.Syms, box g2 26 [.slice A0_1 a0.Words.length c0_1, .slice A0_2 a0.Bits.length c0_2, .slice A0_3 a0.Names.length c0_3]] := hw
     refine go_pvs 11 [164] [(24, .pointer (some (⟨g153, 0, none⟩ : Addr))), (25, .int .i64 t142)] hs ?_; clear hs; intro a hs
     refine go_end (hK139 _ _ ?_)
     refine go_seq_k fun K154 hK154 => ?_
     have hJ9 : ∀ (v158 : Bool) (a : Act) (w : World), Slots a 189 [(6, .bool v158)] → St [] w0 w [mSmachine_Machine (some ⟨g153, 0, none⟩) x148, own 38 (eI .u32) Aa124 cc125 t121, own 38 (eI .u32) Aa114 cc115 t111, own 38 (eI .u32) Aa55 cc56 t52, own 38 (eI .u32) Aa45 cc46 t42, box g27 32 [.slice Aa16 t14.Words.length cc17, .slice Aa18 t14.Sites.length cc19, .slice Aa20 t14.Syms.length cc21], own 72 eSapi_Sym none 0 ([] : List Sapi_Sym), own 3 (eI .i64) none 0 ([] : List Int), own 38 (eI .u32) none 0 ([] : List Int), own 38 (eI .u32) Aa16 cc17 t14.Words, own 3 (eI .i64) Aa18 cc19 t14.Sites, own 72 eSapi_Sym Aa20 cc21 t14.Syms, box g2 26 [.slice A0_1 a0.Words.length c0_1, .slice A0_2 a0.Bits.length c0_2, .slice A0_3 a0.Names.length c0_3]] → rivetlaw12_LoadShifts.j9 v158 = some r → K154 a w := by
      intro v158 a w hs hw H
      unfold rivetlaw12_LoadShifts.j9 at H
      refine hK154 _ _ ?_
      refine wp_ret ?_
      obtain rfl := Option.some.inj H
      refine ret1 (t := 6) (v := .bool v158) hs (by kernel_rfl) (by kernel_rfl) ?_
      exact ⟨rfl, hw.only 0⟩
     refine go_region ?_
     refine go_pvs 3 [19] [(169, .bool (t112 == 11))] hs ?_; clear hs; intro a hs
     cases hb155 : (t112 == 11)
     ·replace H := ite_f H (beq_eq_false_iff_ne.1 hb155)
      rw [hb155] at hs
      refine go_pvs 23 [21, 22, 23, 24, 25, 169] [(6, .bool false)] hs ?_; clear hs; intro a hs
      refine go_end ?_
      replace hw := hw.up 12
      replace hw := hw.up 12
      replace hw := hw.up 12
      replace hw := hw.up 12
      replace hw := hw.up 12
      replace hw := hw.up 12
      replace hw := hw.up 12
      replace hw := hw.up 12
      replace hw := hw.up 12
      replace hw := hw.up 12
      replace hw := hw.up 12
      replace hw := hw.up 12
      replace hw := hw.up 12
      exact hJ9 false _ _ hs.kx hw H
     ·replace H := ite_t H (beq_iff_eq.1 hb155)
      rw [hb155] at hs
      refine go_pvs 7 [21, 169] [(173, .bool (t122 == 11))] hs ?_; clear hs; intro a hs
      cases hb156 : (t122 == 11)
      ·replace H := ite_f H (beq_eq_false_iff_ne.1 hb156)
       rw [hb156] at hs
       refine go_pvs 23 [22, 23, 24, 25, 173] [(6, .bool false)] hs ?_; clear hs; intro a hs
       refine go_end ?_
       replace hw := hw.up 12
       replace hw := hw.up 12
       replace hw := hw.up 12
       replace hw := hw.up 12
       replace hw := hw.up 12
       replace hw := hw.up 12
       replace hw := hw.up 12
       replace hw := hw.up 12
       replace hw := hw.up 12
       replace hw := hw.up 12
       replace hw := hw.up 12
       replace hw := hw.up 12
       replace hw := hw.up 12
       exact hJ9 false _ _ hs.kx hw H
      ·replace H := ite_t H (beq_iff_eq.1 hb156)
       rw [hb156] at hs
       refine go_pvs 15 [22, 23, 173] [(181, .bool (t132 == 11))] hs ?_; clear hs; intro a hs
       cases hb157 : (t132 == 11)
       ·replace H := ite_f H (beq_eq_false_iff_ne.1 hb157)
        rw [hb157] at hs
        refine go_pvs 23 [24, 25, 181] [(6, .bool false)] hs ?_; clear hs; intro a hs
        refine go_end ?_
        replace hw := hw.up 12
        replace hw := hw.up 12
        replace hw := hw.up 12
        replace hw := hw.up 12
        replace hw := hw.up 12
        replace hw := hw.up 12
        replace hw := hw.up 12
        replace hw := hw.up 12
        replace hw := hw.up 12
        replace hw := hw.up 12
        replace hw := hw.up 12
        replace hw := hw.up 12
        replace hw := hw.up 12
        exact hJ9 false _ _ hs.kx hw H
       ·replace H := ite_t H (beq_iff_eq.1 hb157)
        rw [hb157] at hs
        refine go_pvs 23 [24, 25, 181] [(6, .bool (t142 == 0))] hs ?_; clear hs; intro a hs
        refine go_end ?_
        replace hw := hw.up 12
        replace hw := hw.up 12
        replace hw := hw.up 12
        replace hw := hw.up 12
        replace hw := hw.up 12
        replace hw := hw.up 12
        replace hw := hw.up 12
        replace hw := hw.up 12
        replace hw := hw.up 12
        replace hw := hw.up 12
        replace hw := hw.up 12
        replace hw := hw.up 12
        replace hw := hw.up 12
        exact hJ9 (t142 == 0) _ _ hs.kx hw H
   ·replace hw : St [] w0 _ [mSmachine_Machine Aa134 x138, own 38 (eI .u32) Aa124 cc125 t121, own 38 (eI .u32) Aa114 cc115 t111, own 38 (eI .u32) Aa55 cc56 t52, own 38 (eI .u32) Aa45 cc46 t42, box g27 32 [.slice Aa16 t14.Words.length cc17, .slice Aa18 t14.Sites.length cc19, .slice Aa20 t14.Syms.length cc21], own 72 eSapi_Sym none 0 ([] : List Sapi_Sym), own 3 (eI .i64) none 0 ([] : List Int), own 38 (eI .u32) none 0 ([] : List Int), own 38 (eI .u32) Aa16 cc17 t14.Words, own 3 (eI .i64) Aa18 cc19 t14.Sites, own 72 eSapi_Sym Aa20 cc21 t14.Syms, box g2 26 [.slice A0_1 a0.Words.length c0_1, .slice A0_2 a0.Bits.length c0_2, .slice A0_3 a0.Names.length c0_3]] := hw
    obtain ⟨g159, hAg, hwg⟩ := mSmachine_Machine.addr hw
    clear hw; subst hAg; have hw := hwg; clear hwg
    replace hw : St [] w0 _ [mSmachine_Machine (some ⟨g159, 0, none⟩) x138, own 38 (eI .u32) Aa124 cc125 t121, own 38 (eI .u32) Aa114 cc115 t111, own 38 (eI .u32) Aa55 cc56 t52, own 38 (eI .u32) Aa45 cc46 t42, box g27 32 [.slice Aa16 t14.Words.length cc17, .slice Aa18 t14.Sites.length cc19, .slice Aa20 t14.Syms.length cc21], own 72 eSapi_Sym none 0 ([] : List Sapi_Sym), own 3 (eI .i64) none 0 ([] : List Int), own 38 (eI .u32) none 0 ([] : List Int), own 38 (eI .u32) Aa16 cc17 t14.Words, own 3 (eI .i64) Aa18 cc19 t14.Sites, own 72 eSapi_Sym Aa20 cc21 t14.Syms, box g2 26 [.slice A0_1 a0.Words.length c0_1, .slice A0_2 a0.Bits.length c0_2, .slice A0_3 a0.Names.length c0_3]] := hw
    refine go_pvs 11 [155] [(22, .pointer (some (⟨g159, 0, none⟩ : Addr))), (23, .int .i64 t132)] hs ?_; clear hs; intro a hs
    refine go_end (hK129 _ _ ?_)
    refine go_sk fun K160 hK160 => ?_
    refine go_run hs (by rfl) (x_blds (g := g27) (o := 0) (p := (⟨g27, 0, none⟩ : Addr)) (vs := [.slice Aa16 t14.Words.length cc17, .slice Aa18 t14.Sites.length cc19, .slice Aa20 t14.Syms.length cc21]) (hw.up 5)) [] ?_; clear hs; intro a hs
    refine go_pvs 2 [8] [(160, .pointer (some (⟨g27, 0, none⟩ : Addr)))] hs ?_; clear hs; intro a hs
    refine go_run hs (by rfl) (x_bld (g := g27) (o := 0) (p := (⟨g27, 0, none⟩ : Addr)) (v := .slice Aa16 t14.Words.length cc17) (hw.up 5)) [160] ?_; clear hs; intro a hs
    refine go_pvs 5 [161] [(163, .int .i64 (w64 (2 + (t14.Words.length : Int))))] hs ?_; clear hs; intro a hs
    obtain ⟨⟨t162, t163⟩, hx164, H⟩ := bind_some H
    refine go_call hs (by rfl) (load_Machine.calls t14 Aa16 cc17 Aa18 cc19 Aa20 cc21 8 (w64 (2 + (t14.Words.length : Int))) none 0 ([] : List Int) (t162, t163) _ (Rd.of_own (hw.up 9)) (Rd.of_own (hw.up 10)) (Rd.of_own (hw.up 11)) (Rd.nil _ _) hx164) ?_
    rintro e wd166 ⟨Aa165, rfl, hw167⟩
    refine ⟨_, rfl, ?_⟩
    replace hw := hw.call hw167
    clear hs; intro a hs; replace hs := hs.rms [159, 163]
    rcases t162 with _ | x169
    ·obtain ⟨hAg, hwg⟩ := St.oM_none hw
     clear hw; subst hAg; have hw := hwg; clear hwg
     refine go_pvs 11 [164] [(24, .pointer none), (25, .int .i64 t163)] hs ?_; clear hs; intro a hs
     refine go_end (hK160 _ _ ?_)
     refine go_seq_k fun K170 hK170 => ?_
     have hJ10 : ∀ (a : Act) (w : World), Slots a 189 [(6, .bool false)] → St [] w0 w [mSmachine_Machine (some ⟨g159, 0, none⟩) x138, own 38 (eI .u32) Aa124 cc125 t121, own 38 (eI .u32) Aa114 cc115 t111, own 38 (eI .u32) Aa55 cc56 t52, own 38 (eI .u32) Aa45 cc46 t42, box g27 32 [.slice Aa16 t14.Words.length cc17, .slice Aa18 t14.Sites.length cc19, .slice Aa20 t14.Syms.length cc21], own 72 eSapi_Sym none 0 ([] : List Sapi_Sym), own 3 (eI .i64) none 0 ([] : List Int), own 38 (eI .u32) none 0 ([] : List Int), own 38 (eI .u32) Aa16 cc17 t14.Words, own 3 (eI .i64) Aa18 cc19 t14.Sites, own 72 eSapi_Sym Aa20 cc21 t14.Syms, box g2 26 [.slice A0_1 a0.Words.length c0_1, .slice A0_2 a0.Bits.length c0_2, .slice A0_3 a0.Names.length c0_3]] → rivetlaw12_LoadShifts.j10 = some r → K170 a w := by
      intro a w hs hw H
      unfold rivetlaw12_LoadShifts.j10 at H
      refine hK170 _ _ ?_
      refine wp_ret ?_
      obtain rfl := Option.some.inj H
      refine ret1 (t := 6) (v := .bool false) hs (by kernel_rfl) (by kernel_rfl) ?_
      exact ⟨rfl, hw.only 0⟩
     refine go_region ?_
     refine go_pvs 3 [19] [(169, .bool (t112 == 11))] hs ?_; clear hs; intro a hs
     cases hb171 : (t112 == 11)
     ·replace H := ite_f H (beq_eq_false_iff_ne.1 hb171)
      rw [hb171] at hs
      refine go_pvs 23 [21, 22, 23, 24, 25, 169] [(6, .bool false)] hs ?_; clear hs; intro a hs
      refine go_end ?_
      replace hw := hw.up 12
      replace hw := hw.up 12
      replace hw := hw.up 12
      replace hw := hw.up 12
      replace hw := hw.up 12
      replace hw := hw.up 12
      replace hw := hw.up 12
      replace hw := hw.up 12
      replace hw := hw.up 12
      replace hw := hw.up 12
      replace hw := hw.up 12
      replace hw := hw.up 12
      replace hw := hw.up 12
      exact hJ10 _ _ hs.kx hw H
     ·replace H := ite_t H (beq_iff_eq.1 hb171)
      rw [hb171] at hs
      refine go_pvs 7 [21, 169] [(173, .bool (t122 == 11))] hs ?_; clear hs; intro a hs
      cases hb172 : (t122 == 11)
      ·replace H := ite_f H (beq_eq_false_iff_ne.1 hb172)
       rw [hb172] at hs
       refine go_pvs 23 [22, 23, 24, 25, 173] [(6, .bool false)] hs ?_; clear hs; intro a hs
       refine go_end ?_
       replace hw := hw.up 12
       replace hw := hw.up 12
       replace hw := hw.up 12
       replace hw := hw.up 12
       replace hw := hw.up 12
       replace hw := hw.up 12
       replace hw := hw.up 12
       replace hw := hw.up 12
       replace hw := hw.up 12
       replace hw := hw.up 12
       replace hw := hw.up 12
       replace hw := hw.up 12
       replace hw := hw.up 12
       exact hJ10 _ _ hs.kx hw H
      ·replace H := ite_t H (beq_iff_eq.1 hb172)
       rw [hb172] at hs
       refine go_pvs 23 [22, 23, 24, 25, 173] [(6, .bool false)] hs ?_; clear hs; intro a hs
       refine go_end ?_
       replace hw := hw.up 12
       replace hw := hw.up 12
       replace hw := hw.up 12
       replace hw := hw.up 12
       replace hw := hw.up 12
       replace hw := hw.up 12
       replace hw := hw.up 12
       replace hw := hw.up 12
       replace hw := hw.up 12
       replace hw := hw.up 12
       replace hw := hw.up 12
       replace hw := hw.up 12
       replace hw := hw.up 12
       exact hJ10 _ _ hs.kx hw H
    ·replace hw : St [] w0 _ [mSmachine_Machine Aa165 x169, mSmachine_Machine (some ⟨g159, 0, none⟩) x138, own 38 (eI .u32) Aa124 cc125 t121, own 38 (eI .u32) Aa114 cc115 t111, own 38 (eI .u32) Aa55 cc56 t52, own 38 (eI .u32) Aa45 cc46 t42, box g27 32 [.slice Aa16 t14.Words.length cc17, .slice Aa18 t14.Sites.length cc19, .slice Aa20 t14.Syms.length cc21], own 72 eSapi_Sym none 0 ([] : List Sapi_Sym), own 3 (eI .i64) none 0 ([] : List Int), own 38 (eI .u32) none 0 ([] : List Int), own 38 (eI .u32) Aa16 cc17 t14.Words, own 3 (eI .i64) Aa18 cc19 t14.Sites, own 72 eSapi_Sym Aa20 cc21 t14.Syms, box g2 26 [.slice A0_1 a0.Words.length c0_1, .slice A0_2 a0.Bits.length c0_2, .slice A0_3 a0.Names.length c0_3]] := hw
     obtain ⟨g173, hAg, hwg⟩ := mSmachine_Machine.addr hw
     clear hw; subst hAg; have hw := hwg; clear hwg
     replace hw : St [] w0 _ [mSmachine_Machine (some ⟨g173, 0, none⟩) x169, mSmachine_Machine (some ⟨g159, 0, none⟩) x138, own 38 (eI .u32) Aa124 cc125 t121, own 38 (eI .u32) Aa114 cc115 t111, own 38 (eI .u32) Aa55 cc56 t52, own 38 (eI .u32) Aa45 cc46 t42, box g27 32 [.slice Aa16 t14.Words.length cc17, .slice Aa18 t14.Sites.length cc19, .slice Aa20 t14.Syms.length cc21], own 72 eSapi_Sym none 0 ([] : List Sapi_Sym), own 3 (eI .i64) none 0 ([] : List Int), own 38 (eI .u32) none 0 ([] : List Int), own 38 (eI .u32) Aa16 cc17 t14.Words, own 3 (eI .i64) Aa18 cc19 t14.Sites, own 72 eSapi_Sym Aa20 cc21 t14.Syms, box g2 26 [.slice A0_1 a0.Words.length c0_1, .slice A0_2 a0.Bits.length c0_2, .slice A0_3 a0.Names.length c0_3]] := hw
     refine go_pvs 11 [164] [(24, .pointer (some (⟨g173, 0, none⟩ : Addr))), (25, .int .i64 t163)] hs ?_; clear hs; intro a hs
     refine go_end (hK160 _ _ ?_)
     refine go_seq_k fun K174 hK174 => ?_
     have hJ11 : ∀ (a : Act) (w : World), Slots a 189 [(6, .bool false)] → St [] w0 w [mSmachine_Machine (some ⟨g173, 0, none⟩) x169, mSmachine_Machine (some ⟨g159, 0, none⟩) x138, own 38 (eI .u32) Aa124 cc125 t121, own 38 (eI .u32) Aa114 cc115 t111, own 38 (eI .u32) Aa55 cc56 t52, own 38 (eI .u32) Aa45 cc46 t42, box g27 32 [.slice Aa16 t14.Words.length cc17, .slice Aa18 t14.Sites.length cc19, .slice Aa20 t14.Syms.length cc21], own 72 eSapi_Sym none 0 ([] : List Sapi_Sym), own 3 (eI .i64) none 0 ([] : List Int), own 38 (eI .u32) none 0 ([] : List Int), own 38 (eI .u32) Aa16 cc17 t14.Words, own 3 (eI .i64) Aa18 cc19 t14.Sites, own 72 eSapi_Sym Aa20 cc21 t14.Syms, box g2 26 [.slice A0_1 a0.Words.length c0_1, .slice A0_2 a0.Bits.length c0_2, .slice A0_3 a0.Names.length c0_3]] → rivetlaw12_LoadShifts.j11 = some r → K174 a w := by
      intro a w hs hw H
      unfold rivetlaw12_LoadShifts.j11 at H
      refine hK174 _ _ ?_
      refine wp_ret ?_
      obtain rfl := Option.some.inj H
      refine ret1 (t := 6) (v := .bool false) hs (by kernel_rfl) (by kernel_rfl) ?_
      exact ⟨rfl, hw.only 0⟩
     refine go_region ?_
     refine go_pvs 3 [19] [(169, .bool (t112 == 11))] hs ?_; clear hs; intro a hs
     cases hb175 : (t112 == 11)
     ·replace H := ite_f H (beq_eq_false_iff_ne.1 hb175)
      rw [hb175] at hs
      refine go_pvs 23 [21, 22, 23, 24, 25, 169] [(6, .bool false)] hs ?_; clear hs; intro a hs
      refine go_end ?_
      replace hw := hw.up 13
      replace hw := hw.up 13
      replace hw := hw.up 13
      replace hw := hw.up 13
      replace hw := hw.up 13
      replace hw := hw.up 13
      replace hw := hw.up 13
      replace hw := hw.up 13
      replace hw := hw.up 13
      replace hw := hw.up 13
      replace hw := hw.up 13
      replace hw := hw.up 13
      replace hw := hw.up 13
      replace hw := hw.up 13
      exact hJ11 _ _ hs.kx hw H
     ·replace H := ite_t H (beq_iff_eq.1 hb175)
      rw [hb175] at hs
      refine go_pvs 7 [21, 169] [(173, .bool (t122 == 11))] hs ?_; clear hs; intro a hs
      cases hb176 : (t122 == 11)
      ·replace H := ite_f H (beq_eq_false_iff_ne.1 hb176)
       rw [hb176] at hs
       refine go_pvs 23 [22, 23, 24, 25, 173] [(6, .bool false)] hs ?_; clear hs; intro a hs
       refine go_end ?_
       replace hw := hw.up 13
       replace hw := hw.up 13
       replace hw := hw.up 13
       replace hw := hw.up 13
       replace hw := hw.up 13
       replace hw := hw.up 13
       replace hw := hw.up 13
       replace hw := hw.up 13
       replace hw := hw.up 13
       replace hw := hw.up 13
       replace hw := hw.up 13
       replace hw := hw.up 13
       replace hw := hw.up 13
       replace hw := hw.up 13
       exact hJ11 _ _ hs.kx hw H
      ·replace H := ite_t H (beq_iff_eq.1 hb176)
       rw [hb176] at hs
       refine go_pvs 23 [22, 23, 24, 25, 173] [(6, .bool false)] hs ?_; clear hs; intro a hs
       refine go_end ?_
       replace hw := hw.up 13
       replace hw := hw.up 13
       replace hw := hw.up 13
       replace hw := hw.up 13
       replace hw := hw.up 13
       replace hw := hw.up 13
       replace hw := hw.up 13
       replace hw := hw.up 13
       replace hw := hw.up 13
       replace hw := hw.up 13
       replace hw := hw.up 13
       replace hw := hw.up 13
       replace hw := hw.up 13
       replace hw := hw.up 13
       exact hJ11 _ _ hs.kx hw H
  clear H
  refine go_loop (σ := Int × Int) (fun σ a w => Slots a 189 [(8, .pointer (some (⟨g27, 0, none⟩ : Addr))), (9, .int .i64 y37), (10, .int .i64 y39), (11, .slice Aa45 t42.length cc46), (13, .slice Aa55 t52.length cc56), (15, .int .i64 σ.1), (16, .int .i64 σ.2)] ∧ St [] w0 w [own 38 (eI .u32) Aa55 cc56 t52, own 38 (eI .u32) Aa45 cc46 t42, box g27 32 [.slice Aa16 t14.Words.length cc17, .slice Aa18 t14.Sites.length cc19, .slice Aa20 t14.Syms.length cc21], own 72 eSapi_Sym none 0 ([] : List Sapi_Sym), own 3 (eI .i64) none 0 ([] : List Int), own 38 (eI .u32) none 0 ([] : List Int), own 38 (eI .u32) Aa16 cc17 t14.Words, own 3 (eI .i64) Aa18 cc19 t14.Sites, own 72 eSapi_Sym Aa20 cc21 t14.Syms, box g2 26 [.slice A0_1 a0.Words.length c0_1, .slice A0_2 a0.Bits.length c0_2, .slice A0_3 a0.Names.length c0_3]]) hl73 (by exact ⟨hs.kx, hw⟩) ?_
  rintro ⟨v74, v75⟩ a w ⟨hs, hw⟩ o H hr73
  replace hs : Slots a 189 [(8, .pointer (some (⟨g27, 0, none⟩ : Addr))), (9, .int .i64 y37), (10, .int .i64 y39), (11, .slice Aa45 t42.length cc46), (13, .slice Aa55 t52.length cc56), (15, .int .i64 v74), (16, .int .i64 v75)] := hs
  replace hw : St [] w0 w [own 38 (eI .u32) Aa55 cc56 t52, own 38 (eI .u32) Aa45 cc46 t42, box g27 32 [.slice Aa16 t14.Words.length cc17, .slice Aa18 t14.Sites.length cc19, .slice Aa20 t14.Syms.length cc21], own 72 eSapi_Sym none 0 ([] : List Sapi_Sym), own 3 (eI .i64) none 0 ([] : List Int), own 38 (eI .u32) none 0 ([] : List Int), own 38 (eI .u32) Aa16 cc17 t14.Words, own 3 (eI .i64) Aa18 cc19 t14.Sites, own 72 eSapi_Sym Aa20 cc21 t14.Syms, box g2 26 [.slice A0_1 a0.Words.length c0_1, .slice A0_2 a0.Bits.length c0_2, .slice A0_3 a0.Names.length c0_3]] := hw
  replace H : rivetlaw12_LoadShifts.b73 t42 t14 t52 y39 y37 v74 v75 = some o := H
  unfold rivetlaw12_LoadShifts.b73 at H
  refine go_seq_k fun K76 hK76 => ?_
  refine go_sp [] [(82, .bool (decide (v75 < (t42.length : Int))))] hs ?_; clear hs; intro a hs
  refine go_cond hs (decide (v75 < (t42.length : Int))) (fun hc => ?_) fun hc => ?_
  ·replace H := ite_t H (of_decide_eq_true hc)
   have hb78 := hc
   rw [hb78] at hs
   refine wp_skip ?_
   refine hK76 _ _ ?_
   refine go_seq_k fun K79 hK79 => ?_
   have hJ6 : ∀ (v107 : Int) (a : Act) (w : World), Slots a 189 [(8, .pointer (some (⟨g27, 0, none⟩ : Addr))), (9, .int .i64 y37), (10, .int .i64 y39), (11, .slice Aa45 t42.length cc46), (13, .slice Aa55 t52.length cc56), (15, .int .i64 v107), (16, .int .i64 v75)] → St [] w0 w [own 38 (eI .u32) Aa55 cc56 t52, own 38 (eI .u32) Aa45 cc46 t42, box g27 32 [.slice Aa16 t14.Words.length cc17, .slice Aa18 t14.Sites.length cc19, .slice Aa20 t14.Syms.length cc21], own 72 eSapi_Sym none 0 ([] : List Sapi_Sym), own 3 (eI .i64) none 0 ([] : List Int), own 38 (eI .u32) none 0 ([] : List Int), own 38 (eI .u32) Aa16 cc17 t14.Words, own 3 (eI .i64) Aa18 cc19 t14.Sites, own 72 eSapi_Sym Aa20 cc21 t14.Syms, box g2 26 [.slice A0_1 a0.Words.length c0_1, .slice A0_2 a0.Bits.length c0_2, .slice A0_3 a0.Names.length c0_3]] → rivetlaw12_LoadShifts.j6 v75 v107 = some o → K79 a w := by
    intro v107 a w hs hw H
    unfold rivetlaw12_LoadShifts.j6 at H
    refine hK79 _ _ ?_
    refine go_plain [] [(16, .int .i64 (w64 (v75 + 1)))] hs ?_; clear hs; intro a hs
    replace hw := hw.up 9
    replace hw := hw.up 9
    replace hw := hw.up 9
    replace hw := hw.up 9
    replace hw := hw.up 9
    replace hw := hw.up 9
    replace hw := hw.up 9
    replace hw := hw.up 9
    replace hw := hw.up 9
    replace hw := hw.up 9
    exact round_end (v107, w64 (v75 + 1)) (Option.some.inj H).symm ⟨hs.kx, hw⟩
   refine wp_block ?_
   refine go_sp [82] [(17, .int .u32 0)] hs ?_; clear hs; intro a hs
   refine go_seq_k fun K81 hK81 => ?_
   have hJ4 : ∀ (v90 : Int) (v91 : Int) (a : Act) (w : World), Slots a 189 [(8, .pointer (some (⟨g27, 0, none⟩ : Addr))), (9, .int .i64 y37), (10, .int .i64 y39), (11, .slice Aa45 t42.length cc46), (13, .slice Aa55 t52.length cc56), (15, .int .i64 v90), (16, .int .i64 v75), (17, .int .u32 v91)] → St [] w0 w [own 38 (eI .u32) Aa55 cc56 t52, own 38 (eI .u32) Aa45 cc46 t42, box g27 32 [.slice Aa16 t14.Words.length cc17, .slice Aa18 t14.Sites.length cc19, .slice Aa20 t14.Syms.length cc21], own 72 eSapi_Sym none 0 ([] : List Sapi_Sym), own 3 (eI .i64) none 0 ([] : List Int), own 38 (eI .u32) none 0 ([] : List Int), own 38 (eI .u32) Aa16 cc17 t14.Words, own 3 (eI .i64) Aa18 cc19 t14.Sites, own 72 eSapi_Sym Aa20 cc21 t14.Syms, box g2 26 [.slice A0_1 a0.Words.length c0_1, .slice A0_2 a0.Bits.length c0_2, .slice A0_3 a0.Names.length c0_3]] → rivetlaw12_LoadShifts.j4 v75 t52 t42 y39 y37 t14 v90 v91 = some o → K81 a w := by
    intro v90 v91 a w hs hw H
    unfold rivetlaw12_LoadShifts.j4 at H
    refine hK81 _ _ ?_
    refine go_seq_k fun K92 hK92 => ?_
    have hJ5 : ∀ (v103 : Bool) (a : Act) (w : World), Slots a 189 [(8, .pointer (some (⟨g27, 0, none⟩ : Addr))), (9, .int .i64 y37), (10, .int .i64 y39), (11, .slice Aa45 t42.length cc46), (13, .slice Aa55 t52.length cc56), (15, .int .i64 v90), (16, .int .i64 v75), (136, .bool v103)] → St [] w0 w [own 38 (eI .u32) Aa55 cc56 t52, own 38 (eI .u32) Aa45 cc46 t42, box g27 32 [.slice Aa16 t14.Words.length cc17, .slice Aa18 t14.Sites.length cc19, .slice Aa20 t14.Syms.length cc21], own 72 eSapi_Sym none 0 ([] : List Sapi_Sym), own 3 (eI .i64) none 0 ([] : List Int), own 38 (eI .u32) none 0 ([] : List Int), own 38 (eI .u32) Aa16 cc17 t14.Words, own 3 (eI .i64) Aa18 cc19 t14.Sites, own 72 eSapi_Sym Aa20 cc21 t14.Syms, box g2 26 [.slice A0_1 a0.Words.length c0_1, .slice A0_2 a0.Bits.length c0_2, .slice A0_3 a0.Names.length c0_3]] → rivetlaw12_LoadShifts.j5 v75 v90 v103 = some o → K92 a w := by
     intro v103 a w hs hw H
     unfold rivetlaw12_LoadShifts.j5 at H
     refine hK92 _ _ ?_
     refine go_cond hs v103 (fun hc => ?_) fun hc => ?_
     ·replace H := ite_t H hc
      have hb104 := hc
      rw [hb104] at hs
      refine go_sp [8, 9, 10, 11, 13, 15, 16, 136] [(6, .bool false)] hs ?_; clear hs; intro a hs
      refine wp_ret ?_
      refine ib_ret ?_
      refine th_ret ?_
      refine th_ret ?_
      refine ib_ret ?_
      refine th_ret ?_
      rw [← hr73 _ (Option.some.inj H).symm] at HX73
      replace H : some false = some r := HX73
      obtain rfl := Option.some.inj H
      refine ret1 (t := 6) (v := .bool false) hs (by kernel_rfl) (by kernel_rfl) ?_
      exact ⟨rfl, hw.only 0⟩
     ·replace H := ite_f H (ff hc)
      have hb106 := hc
      rw [hb106] at hs
      refine wp_skip ?_
      refine ib_norm ?_
      replace hw := hw.up 9
      replace hw := hw.up 9
      replace hw := hw.up 9
      replace hw := hw.up 9
      replace hw := hw.up 9
      replace hw := hw.up 9
      replace hw := hw.up 9
      replace hw := hw.up 9
      replace hw := hw.up 9
      replace hw := hw.up 9
      exact hJ6 v90 _ _ hs.kx hw H
    refine q2_region (by kernel_rfl) (by kernel_rfl) ?_
    refine q_pvs 2 [] [(105, .slice Aa55 t52.length cc56), (106, .int .i64 v75)] hs ?_; clear hs; intro a hs
    obtain ⟨hp93, H⟩ := ite_only H
    obtain ⟨ad94, rfl⟩ := (Rd.of_own (hw.up 0)).some hp93.1 hp93.2
    refine q_run hs (by rfl) (fun wx hbx => (x_idx (T := 38) (sz := 1) (a := ad94) (n := t52.length) (cap := cc56) (k := .i64) (i := v75) hp93)) [105, 106] ?_; clear hs; intro a hs
    refine q_run hs (by rfl) (fun wx hbx => (x_ld (off := 0) (p := ad94.add (v75.toNat * 1)) (v := .int .u32 (ix (eI .u32).d t52 v75)) ((Rd.of_own (hw.up 0)).below hbx) hp93 rfl)) [107] ?_; clear hs; intro a hs
    refine q_pvs 6 [] [(109, .slice Aa45 t42.length cc46), (110, .int .i64 v75)] hs ?_; clear hs; intro a hs
    obtain ⟨hp95, H⟩ := ite_only H
    obtain ⟨ad96, rfl⟩ := (Rd.of_own (hw.up 1)).some hp95.1 hp95.2
    refine q_run hs (by rfl) (fun wx hbx => (x_idx (T := 38) (sz := 1) (a := ad96) (n := t42.length) (cap := cc46) (k := .i64) (i := v75) hp95)) [109, 110] ?_; clear hs; intro a hs
    refine q_run hs (by rfl) (fun wx hbx => (x_ld (off := 0) (p := ad96.add (v75.toNat * 1)) (v := .int .u32 (ix (eI .u32).d t42 v75)) ((Rd.of_own (hw.up 1)).below hbx) hp95 rfl)) [111] ?_; clear hs; intro a hs
    refine q_pvs 12 [108, 112] [(116, .bool ((wu32 ((ix (eI .u32).d t52 v75) - (ix (eI .u32).d t42 v75))) != v91))] hs ?_; clear hs; intro a hs
    cases hb97 : ((wu32 ((ix (eI .u32).d t52 v75) - (ix (eI .u32).d t42 v75))) != v91)
    ·replace H := ite_t H (bne_eq_false_iff_eq.1 hb97)
     rw [hb97] at hs
     refine q_pvs 15 [17] [(119, .bool (v91 == 0))] hs ?_; clear hs; intro a hs
     cases hb98 : (v91 == 0)
     ·replace H := ite_f H (beq_eq_false_iff_ne.1 hb98)
      rw [hb98] at hs
      refine q_pvs 32 [116, 119] [(136, .bool false)] hs ?_; clear hs; intro a hs
      refine q_end ?_
      intro wq hbq
      replace hw := hw.behind hbq
      replace hw := hw.up 9
      replace hw := hw.up 9
      replace hw := hw.up 9
      replace hw := hw.up 9
      replace hw := hw.up 9
      replace hw := hw.up 9
      replace hw := hw.up 9
      replace hw := hw.up 9
      replace hw := hw.up 9
      replace hw := hw.up 9
      exact hJ5 false _ _ hs.kx hw H
     ·replace H := ite_t H (beq_iff_eq.1 hb98)
      rw [hb98] at hs
      refine q_pvs 20 [119] [(124, .bool (y39 != y37))] hs ?_; clear hs; intro a hs
      cases hb99 : (y39 != y37)
      ·replace H := ite_t H (bne_eq_false_iff_eq.1 hb99)
       rw [hb99] at hs
       refine q_pvs 32 [116, 124] [(136, .bool false)] hs ?_; clear hs; intro a hs
       refine q_end ?_
       intro wq hbq
       replace hw := hw.behind hbq
       replace hw := hw.up 9
       replace hw := hw.up 9
       replace hw := hw.up 9
       replace hw := hw.up 9
       replace hw := hw.up 9
       replace hw := hw.up 9
       replace hw := hw.up 9
       replace hw := hw.up 9
       replace hw := hw.up 9
       replace hw := hw.up 9
       exact hJ5 false _ _ hs.kx hw H
      ·replace H := ite_f H (bne_iff_ne.1 hb99)
       rw [hb99] at hs
       refine q_pvs 22 [] [(125, .slice (some ad96) t42.length cc46), (126, .int .i64 v75)] hs ?_; clear hs; intro a hs
       obtain ⟨hp100, H⟩ := ite_only H
       refine q_run hs (by rfl) (fun wx hbx => (x_idx (T := 38) (sz := 1) (a := ad96) (n := t42.length) (cap := cc46) (k := .i64) (i := v75) hp100)) [125, 126] ?_; clear hs; intro a hs
       refine q_run hs (by rfl) (fun wx hbx => (x_ld (off := 0) (p := ad96.add (v75.toNat * 1)) (v := .int .u32 (ix (eI .u32).d t42 v75)) ((Rd.of_own (hw.up 1)).below hbx) hp100 rfl)) [127] ?_; clear hs; intro a hs
       refine q_pvs 25 [] [(129, .pointer (some (⟨g27, 0, none⟩ : Addr)))] hs ?_; clear hs; intro a hs
       refine q_run hs (by rfl) (fun wx hbx => (x_bld (g := g27) (o := 0) (p := (⟨g27, 0, none⟩ : Addr)) (v := .slice Aa16 t14.Words.length cc17) ((hw.behind hbx).up 2))) [129] ?_; clear hs; intro a hs
       refine q_pvs 27 [] [(131, .int .i64 v75)] hs ?_; clear hs; intro a hs
       obtain ⟨hp101, H⟩ := ite_only H
       obtain ⟨ad102, rfl⟩ := (Rd.of_own (hw.up 6)).some hp101.1 hp101.2
       refine q_run hs (by rfl) (fun wx hbx => (x_idx (T := 38) (sz := 1) (a := ad102) (n := t14.Words.length) (cap := cc17) (k := .i64) (i := v75) hp101)) [130, 131] ?_; clear hs; intro a hs
       refine q_run hs (by rfl) (fun wx hbx => (x_ld (off := 0) (p := ad102.add (v75.toNat * 1)) (v := .int .u32 (ix (eI .u32).d t14.Words v75)) ((Rd.of_own (hw.up 6)).below hbx) hp101 rfl)) [132] ?_; clear hs; intro a hs
       refine q_pvs 32 [116, 124, 128, 133] [(136, .bool ((ix (eI .u32).d t42 v75) != (ix (eI .u32).d t14.Words v75)))] hs ?_; clear hs; intro a hs
       refine q_end ?_
       intro wq hbq
       replace hw := hw.behind hbq
       replace hw := hw.up 9
       replace hw := hw.up 9
       replace hw := hw.up 9
       replace hw := hw.up 9
       replace hw := hw.up 9
       replace hw := hw.up 9
       replace hw := hw.up 9
       replace hw := hw.up 9
       replace hw := hw.up 9
       replace hw := hw.up 9
       exact hJ5 ((ix (eI .u32).d t42 v75) != (ix (eI .u32).d t14.Words v75)) _ _ hs.kx hw H
    ·replace H := ite_f H (bne_iff_ne.1 hb97)
     rw [hb97] at hs
     refine q_pvs 32 [17, 116] [(136, .bool true)] hs ?_; clear hs; intro a hs
     refine q_end ?_
     intro wq hbq
     replace hw := hw.behind hbq
     replace hw := hw.up 9
     replace hw := hw.up 9
     replace hw := hw.up 9
     replace hw := hw.up 9
     replace hw := hw.up 9
     replace hw := hw.up 9
     replace hw := hw.up 9
     replace hw := hw.up 9
     replace hw := hw.up 9
     replace hw := hw.up 9
     exact hJ5 true _ _ hs.kx hw H
   refine go_seq_k fun K82 hK82 => ?_
   have hJ3 : ∀ (v86 : Bool) (a : Act) (w : World), Slots a 189 [(8, .pointer (some (⟨g27, 0, none⟩ : Addr))), (9, .int .i64 y37), (10, .int .i64 y39), (11, .slice Aa45 t42.length cc46), (13, .slice Aa55 t52.length cc56), (15, .int .i64 v74), (16, .int .i64 v75), (17, .int .u32 0), (98, .bool v86)] → St [] w0 w [own 38 (eI .u32) Aa55 cc56 t52, own 38 (eI .u32) Aa45 cc46 t42, box g27 32 [.slice Aa16 t14.Words.length cc17, .slice Aa18 t14.Sites.length cc19, .slice Aa20 t14.Syms.length cc21], own 72 eSapi_Sym none 0 ([] : List Sapi_Sym), own 3 (eI .i64) none 0 ([] : List Int), own 38 (eI .u32) none 0 ([] : List Int), own 38 (eI .u32) Aa16 cc17 t14.Words, own 3 (eI .i64) Aa18 cc19 t14.Sites, own 72 eSapi_Sym Aa20 cc21 t14.Syms, box g2 26 [.slice A0_1 a0.Words.length c0_1, .slice A0_2 a0.Bits.length c0_2, .slice A0_3 a0.Names.length c0_3]] → rivetlaw12_LoadShifts.j3 v75 t52 t42 y39 y37 t14 v74 v86 = some o → K82 a w := by
    intro v86 a w hs hw H
    unfold rivetlaw12_LoadShifts.j3 at H
    refine hK82 _ _ ?_
    refine go_cond hs v86 (fun hc => ?_) fun hc => ?_
    ·replace H := ite_t H hc
     have hb87 := hc
     rw [hb87] at hs
     refine go_sp [17, 98] [(15, .int .i64 (w64 (v74 + 1)))] hs ?_; clear hs; intro a hs
     refine go_plain [] [(17, .int .u32 (wu32 (w64 (y39 - y37))))] hs ?_; clear hs; intro a hs
     replace hw := hw.up 9
     replace hw := hw.up 9
     replace hw := hw.up 9
     replace hw := hw.up 9
     replace hw := hw.up 9
     replace hw := hw.up 9
     replace hw := hw.up 9
     replace hw := hw.up 9
     replace hw := hw.up 9
     replace hw := hw.up 9
     exact hJ4 (w64 (v74 + 1)) (wu32 (w64 (y39 - y37))) _ _ hs.kx hw H
    ·replace H := ite_f H (ff hc)
     have hb89 := hc
     rw [hb89] at hs
     refine wp_skip ?_
     replace hw := hw.up 9
     replace hw := hw.up 9
     replace hw := hw.up 9
     replace hw := hw.up 9
     replace hw := hw.up 9
     replace hw := hw.up 9
     replace hw := hw.up 9
     replace hw := hw.up 9
     replace hw := hw.up 9
     replace hw := hw.up 9
     exact hJ4 v74 0 _ _ hs.kx hw H
   refine go_region ?_
   refine go_pvs 2 [] [(85, .int .i64 v74), (86, .pointer (some (⟨g27, 1, none⟩ : Addr)))] hs ?_; clear hs; intro a hs
   refine go_run hs (by rfl) (x_bld (g := g27) (o := 1) (p := (⟨g27, 1, none⟩ : Addr)) (v := .slice Aa18 t14.Sites.length cc19) (hw.up 2)) [86] ?_; clear hs; intro a hs
   refine go_pvs 6 [85, 87] [(90, .bool (decide (v74 < (t14.Sites.length : Int))))] hs ?_; clear hs; intro a hs
   cases hb83 : (decide (v74 < (t14.Sites.length : Int)))
   ·replace H := ite_f H (of_decide_eq_false hb83)
    rw [hb83] at hs
    refine go_pvs 14 [90] [(98, .bool false)] hs ?_; clear hs; intro a hs
    refine go_end ?_
    replace hw := hw.up 9
    replace hw := hw.up 9
    replace hw := hw.up 9
    replace hw := hw.up 9
    replace hw := hw.up 9
    replace hw := hw.up 9
    replace hw := hw.up 9
    replace hw := hw.up 9
    replace hw := hw.up 9
    replace hw := hw.up 9
    exact hJ3 false _ _ hs.kx hw H
   ·replace H := ite_t H (of_decide_eq_true hb83)
    rw [hb83] at hs
    refine go_pvs 7 [] [(91, .pointer (some (⟨g27, 1, none⟩ : Addr)))] hs ?_; clear hs; intro a hs
    refine go_run hs (by rfl) (x_bld (g := g27) (o := 1) (p := (⟨g27, 1, none⟩ : Addr)) (v := .slice Aa18 t14.Sites.length cc19) (hw.up 2)) [91] ?_; clear hs; intro a hs
    refine go_pvs 9 [] [(93, .int .i64 v74)] hs ?_; clear hs; intro a hs
    obtain ⟨hp84, H⟩ := ite_only H
    obtain ⟨ad85, rfl⟩ := (Rd.of_own (hw.up 7)).some hp84.1 hp84.2
    refine go_run hs (by rfl) (x_idx (T := 3) (sz := 1) (a := ad85) (n := t14.Sites.length) (cap := cc19) (k := .i64) (i := v74) hp84) [92, 93] ?_; clear hs; intro a hs
    refine go_run hs (by rfl) (x_ld (off := 0) (p := ad85.add (v74.toNat * 1)) (v := .int .i64 (ix (eI .i64).d t14.Sites v74)) (Rd.of_own (hw.up 7)) hp84 rfl) [94] ?_; clear hs; intro a hs
    refine go_pvs 14 [90, 95] [(98, .bool ((ix (eI .i64).d t14.Sites v74) == v75))] hs ?_; clear hs; intro a hs
    refine go_end ?_
    replace hw := hw.up 9
    replace hw := hw.up 9
    replace hw := hw.up 9
    replace hw := hw.up 9
    replace hw := hw.up 9
    replace hw := hw.up 9
    replace hw := hw.up 9
    replace hw := hw.up 9
    replace hw := hw.up 9
    replace hw := hw.up 9
    exact hJ3 ((ix (eI .i64).d t14.Sites v74) == v75) _ _ hs.kx hw H
  ·replace H := ite_f H (of_decide_eq_false hc)
   have hb108 := hc
   rw [hb108] at hs
   refine wp_exit ?_
   refine th_exit ?_
   refine th_exit ?_
   refine in_block ?_
   replace hw := hw.up 9
   replace hw := hw.up 9
   replace hw := hw.up 9
   replace hw := hw.up 9
   replace hw := hw.up 9
   replace hw := hw.up 9
   replace hw := hw.up 9
   replace hw := hw.up 9
   replace hw := hw.up 9
   replace hw := hw.up 9
   rw [← hr73 _ (Option.some.inj H).symm] at HX73
   exact hJ7 _ _ hs.kx hw HX73
 refine go_seq_k fun K61 hK61 => ?_
 have hJ1 : ∀ (v66 : Bool) (a : Act) (w : World), Slots a 189 [(8, .pointer (some (⟨g27, 0, none⟩ : Addr))), (9, .int .i64 y37), (10, .int .i64 y39), (11, .slice Aa45 t42.length cc46), (13, .slice Aa55 t52.length cc56), (78, .bool v66)] → St [] w0 w [own 38 (eI .u32) Aa55 cc56 t52, own 38 (eI .u32) Aa45 cc46 t42, box g27 32 [.slice Aa16 t14.Words.length cc17, .slice Aa18 t14.Sites.length cc19, .slice Aa20 t14.Syms.length cc21], own 72 eSapi_Sym none 0 ([] : List Sapi_Sym), own 3 (eI .i64) none 0 ([] : List Int), own 38 (eI .u32) none 0 ([] : List Int), own 38 (eI .u32) Aa16 cc17 t14.Words, own 3 (eI .i64) Aa18 cc19 t14.Sites, own 72 eSapi_Sym Aa20 cc21 t14.Syms, box g2 26 [.slice A0_1 a0.Words.length c0_1, .slice A0_2 a0.Bits.length c0_2, .slice A0_3 a0.Names.length c0_3]] → rivetlaw12_LoadShifts.j1 t42 t14 t52 y39 y37 v66 = some r → K61 a w := by
  intro v66 a w hs hw H
  unfold rivetlaw12_LoadShifts.j1 at H
  refine hK61 _ _ ?_
  refine go_cond hs v66 (fun hc => ?_) fun hc => ?_
  ·replace H := ite_t H hc
   have hb67 := hc
   rw [hb67] at hs
   refine go_sp [8, 9, 10, 11, 13, 78] [(6, .bool false)] hs ?_; clear hs; intro a hs
   refine wp_ret ?_
   refine th_ret ?_
   obtain rfl := Option.some.inj H
   refine ret1 (t := 6) (v := .bool false) hs (by kernel_rfl) (by kernel_rfl) ?_
   exact ⟨rfl, hw.only 0⟩
  ·replace H := ite_f H (ff hc)
   have hb69 := hc
   rw [hb69] at hs
   refine wp_skip ?_
   replace hw := hw.up 9
   replace hw := hw.up 9
   replace hw := hw.up 9
   replace hw := hw.up 9
   replace hw := hw.up 9
   replace hw := hw.up 9
   replace hw := hw.up 9
   replace hw := hw.up 9
   replace hw := hw.up 9
   replace hw := hw.up 9
   exact hJ2 _ _ hs.kx hw H
 refine go_region ?_
 refine go_pvs 3 [7] [(56, .bool (!t8))] hs ?_; clear hs; intro a hs
 cases hb62 : (!t8)
 ·replace H := ite_t H (nf hb62)
  rw [hb62] at hs
  refine go_pvs 7 [12, 56] [(60, .bool (t43 != 0))] hs ?_; clear hs; intro a hs
  cases hb63 : (t43 != 0)
  ·replace H := ite_t H (bne_eq_false_iff_eq.1 hb63)
   rw [hb63] at hs
   refine go_pvs 11 [14, 60] [(64, .bool (t53 != 0))] hs ?_; clear hs; intro a hs
   cases hb64 : (t53 != 0)
   ·replace H := ite_t H (bne_eq_false_iff_eq.1 hb64)
    rw [hb64] at hs
    refine go_pvs 14 [] [(66, .int .i64 (t42.length : Int)), (67, .pointer (some (⟨g27, 0, none⟩ : Addr)))] hs ?_; clear hs; intro a hs
    refine go_run hs (by rfl) (x_bld (g := g27) (o := 0) (p := (⟨g27, 0, none⟩ : Addr)) (v := .slice Aa16 t14.Words.length cc17) (hw.up 2)) [67] ?_; clear hs; intro a hs
    refine go_pvs 19 [64, 66, 68] [(72, .bool ((t42.length : Int) != (t14.Words.length : Int)))] hs ?_; clear hs; intro a hs
    cases hb65 : ((t42.length : Int) != (t14.Words.length : Int))
    ·replace H := ite_t H (bne_eq_false_iff_eq.1 hb65)
     rw [hb65] at hs
     refine go_pvs 25 [72] [(78, .bool ((t52.length : Int) != (t42.length : Int)))] hs ?_; clear hs; intro a hs
     refine go_end ?_
     replace hw := hw.up 9
     replace hw := hw.up 9
     replace hw := hw.up 9
     replace hw := hw.up 9
     replace hw := hw.up 9
     replace hw := hw.up 9
     replace hw := hw.up 9
     replace hw := hw.up 9
     replace hw := hw.up 9
     replace hw := hw.up 9
     exact hJ1 ((t52.length : Int) != (t42.length : Int)) _ _ hs.kx hw H
    ·replace H := ite_f H (bne_iff_ne.1 hb65)
     rw [hb65] at hs
     refine go_pvs 25 [72] [(78, .bool true)] hs ?_; clear hs; intro a hs
     refine go_end ?_
     replace hw := hw.up 9
     replace hw := hw.up 9
     replace hw := hw.up 9
     replace hw := hw.up 9
     replace hw := hw.up 9
     replace hw := hw.up 9
     replace hw := hw.up 9
     replace hw := hw.up 9
     replace hw := hw.up 9
     replace hw := hw.up 9
     exact hJ1 true _ _ hs.kx hw H
   ·replace H := ite_f H (bne_iff_ne.1 hb64)
    rw [hb64] at hs
    refine go_pvs 25 [64] [(78, .bool true)] hs ?_; clear hs; intro a hs
    refine go_end ?_
    replace hw := hw.up 9
    replace hw := hw.up 9
    replace hw := hw.up 9
    replace hw := hw.up 9
    replace hw := hw.up 9
    replace hw := hw.up 9
    replace hw := hw.up 9
    replace hw := hw.up 9
    replace hw := hw.up 9
    replace hw := hw.up 9
    exact hJ1 true _ _ hs.kx hw H
  ·replace H := ite_f H (bne_iff_ne.1 hb63)
   rw [hb63] at hs
   refine go_pvs 25 [14, 60] [(78, .bool true)] hs ?_; clear hs; intro a hs
   refine go_end ?_
   replace hw := hw.up 9
   replace hw := hw.up 9
   replace hw := hw.up 9
   replace hw := hw.up 9
   replace hw := hw.up 9
   replace hw := hw.up 9
   replace hw := hw.up 9
   replace hw := hw.up 9
   replace hw := hw.up 9
   replace hw := hw.up 9
   exact hJ1 true _ _ hs.kx hw H
 ·replace H := ite_f H (ff (nt hb62))
  rw [hb62] at hs
  refine go_pvs 25 [12, 14, 56] [(78, .bool true)] hs ?_; clear hs; intro a hs
  refine go_end ?_
  replace hw := hw.up 9
  replace hw := hw.up 9
  replace hw := hw.up 9
  replace hw := hw.up 9
  replace hw := hw.up 9
  replace hw := hw.up 9
  replace hw := hw.up 9
  replace hw := hw.up 9
  replace hw := hw.up 9
  replace hw := hw.up 9
  exact hJ1 true _ _ hs.kx hw H

end Go.Proofs.YtheccnbamcdpmaaDoor.T12
