/- YtheccnbamcdpmaaDoorT12zLoadTwice: Go functions told as plain ones, each with a proof that its call comes to what is told, part 1. Condition of each: that the plain function comes to a value. -/
import Derived.Test.YtheccnbamcdpmaaDoorT12
import Derived.Test.YtheccnbamcdpmaaDoorEP
import Derived.Test.YtheccnbamcdpmaaDoorProg
namespace Go.Proofs.YtheccnbamcdpmaaDoor.T12
open Go Go.RowKit Go.Proofs.YtheccnbamcdpmaaDoor.E
set_option linter.unusedVariables false
set_option linter.unusedSimpArgs false
structure Srivetlaw12_Parts where
  Words : List Int
  Bits : List Int
  Names : List ByteArray
def okSrivetlaw12_Parts (x : Srivetlaw12_Parts) : Prop := (∀ n ∈ x.Words, In .u32 n) ∧ x.Words.length * 4 ≤ 140737488351232 ∧ (∀ n ∈ x.Bits, In .u8 n) ∧ x.Bits.length * 1 ≤ 140737488351232 ∧ (∀ n ∈ x.Names, n.size ≤ 140737488351232) ∧ x.Names.length * 16 ≤ 140737488351232
def mSrivetlaw12_Parts (A : Option Addr) (x : Srivetlaw12_Parts) : Asn := fun L => ∃ g A1 c1 A2 c2 A3 c3, A = some ⟨g, 0, none⟩ ∧ Cov [box g 26 [.slice A1 x.Words.length c1, .slice A2 x.Bits.length c2, .slice A3 x.Names.length c3], own 38 (eI .u32) A1 c1 x.Words, own 5 (eI .u8) A2 c2 x.Bits, own 9 eS A3 c3 x.Names] L
theorem mSrivetlaw12_Parts.addr {G : List Nat} {w0 w : World} {As : List Asn} {A : Option Addr} {x : Srivetlaw12_Parts} (h : St G w0 w (mSrivetlaw12_Parts A x :: As)) : ∃ g, A = some ⟨g, 0, none⟩ ∧ St G w0 w (mSrivetlaw12_Parts (some ⟨g, 0, none⟩) x :: As) := by
  have h' := h
  obtain ⟨L, ⟨L1, L2, rfl, ⟨g, A1, c1, A2, c2, A3, c3, rfl, hc⟩, hr⟩, hs⟩ := h
  exact ⟨g, rfl, h'⟩
theorem mSrivetlaw12_Parts.open {G : List Nat} {w0 w : World} {As : List Asn} {A : Option Addr} {x : Srivetlaw12_Parts} (h : St G w0 w (mSrivetlaw12_Parts A x :: As)) : ∃ g A1 c1 A2 c2 A3 c3, A = some ⟨g, 0, none⟩ ∧ St G w0 w ([box g 26 [.slice A1 x.Words.length c1, .slice A2 x.Bits.length c2, .slice A3 x.Names.length c3], own 38 (eI .u32) A1 c1 x.Words, own 5 (eI .u8) A2 c2 x.Bits, own 9 eS A3 c3 x.Names] ++ As) := by
  obtain ⟨L, ⟨L1, L2, rfl, ⟨g, A1, c1, A2, c2, A3, c3, rfl, hc⟩, hr⟩, hs⟩ := h
  exact ⟨g, A1, c1, A2, c2, A3, c3, rfl, _, Cov.join hr hc, hs⟩
theorem mSrivetlaw12_Parts.open1 {G : List Nat} {w0 w : World} {As : List Asn} {g : Nat} {x : Srivetlaw12_Parts} (h : St G w0 w (mSrivetlaw12_Parts (some ⟨g, 0, none⟩) x :: As)) : ∃ A1 c1 A2 c2 A3 c3, St G w0 w ([box g 26 [.slice A1 x.Words.length c1, .slice A2 x.Bits.length c2, .slice A3 x.Names.length c3], own 38 (eI .u32) A1 c1 x.Words, own 5 (eI .u8) A2 c2 x.Bits, own 9 eS A3 c3 x.Names] ++ As) := by
  obtain ⟨g', A1, c1, A2, c2, A3, c3, hg, h⟩ := mSrivetlaw12_Parts.open h
  cases hg
  exact ⟨A1, c1, A2, c2, A3, c3, h⟩
theorem mSrivetlaw12_Parts.close {G : List Nat} {w0 w : World} {As : List Asn} {g : Nat} {A1 : Option Addr} {c1 : Nat} {A2 : Option Addr} {c2 : Nat} {A3 : Option Addr} {c3 : Nat} {x : Srivetlaw12_Parts} (h : St G w0 w ([box g 26 [.slice A1 x.Words.length c1, .slice A2 x.Bits.length c2, .slice A3 x.Names.length c3], own 38 (eI .u32) A1 c1 x.Words, own 5 (eI .u8) A2 c2 x.Bits, own 9 eS A3 c3 x.Names] ++ As)) : St G w0 w (mSrivetlaw12_Parts (some ⟨g, 0, none⟩) x :: As) := by
  obtain ⟨L, hc, hs⟩ := h
  obtain ⟨L1, L2, rfl, h1, h2⟩ := Cov.split (Gs := [box g 26 [.slice A1 x.Words.length c1, .slice A2 x.Bits.length c2, .slice A3 x.Names.length c3], own 38 (eI .u32) A1 c1 x.Words, own 5 (eI .u8) A2 c2 x.Bits, own 9 eS A3 c3 x.Names]) hc
  exact ⟨_, ⟨L1, L2, rfl, ⟨g, A1, c1, A2, c2, A3, c3, rfl, h1⟩, h2⟩, hs⟩
/-! rivet/rivetlaw12.LoadTwice: function 3 -/
noncomputable def rivetlaw12_LoadTwice.j2 (v105 : Bool) : Option Bool := some v105
noncomputable def rivetlaw12_LoadTwice.j1 (t14 : Sapi_Obj) (a1 : Int) (t8 : Bool) (t51 : Int) (t60 : Bool) (l78 : List Int) : Option Bool := ((load_Image (⟨t14.Words, ([] : List Int), ([] : List Sapi_Sym)⟩ : Sapi_Obj) (w64 (4 * ((w64 a1).tmod 4097)))).bind fun ⟨t81, t82⟩ => ((if t8 = true then (if t51 = 0 then (if t82 = 0 then (if t60 = true then ((rivetref05_Same t14.Words (([] : List Int) ++ t14.Words)).bind fun t95 => ((if t95 = true then ((rivetref05_Same t81 (([] : List Int) ++ t14.Words)).bind fun t101 => (rivetlaw12_LoadTwice.j2 t101)) else rivetlaw12_LoadTwice.j2 false))) else rivetlaw12_LoadTwice.j2 false) else rivetlaw12_LoadTwice.j2 false) else rivetlaw12_LoadTwice.j2 false) else rivetlaw12_LoadTwice.j2 false)))
noncomputable def rivetlaw12_LoadTwice.b66 (l67 : List Int) (v68 : Int) : Option ((List Int) × Int ⊕ (List Int)) := (if v68 < (l67.length : Int) then (if 0 ≤ v68 ∧ v68 < (l67.length : Int) then some (.inl (l67.set (v68 : Int).toNat 7, w64 (v68 + 1))) else none) else some (.inr l67))
noncomputable def rivetlaw12_LoadTwice (a0 : Srivetlaw12_Parts) (a1 : Int) : Option Bool := ((rivetlaw12_shown).bind fun t8 => (((rivetref09_Fit a0.Words a0.Bits a0.Names).bind fun t14 => ((if ([] : List Int).length + t14.Words.length ≤ 35184372088832 then ((load_Image t14 0).bind fun ⟨t50, t51⟩ => (((rivetref05_Same t50 (([] : List Int) ++ t14.Words)).bind fun t60 => (((loopO (fun (σ : (List Int) × Int) => rivetlaw12_LoadTwice.b66 σ.1 σ.2) (t50, 0)).bind fun e => rivetlaw12_LoadTwice.j1 t14 a1 t8 t51 t60 e))))) else none)))))
set_option maxRecDepth 100000 in
set_option maxHeartbeats 4000000 in
theorem rivetlaw12_LoadTwice.calls (a0 : Srivetlaw12_Parts) (A0_1 : Option Addr) (c0_1 : Nat) (A0_2 : Option Addr) (c0_2 : Nat) (A0_3 : Option Addr) (c0_3 : Nat) (a1 : Int) (r : Bool) (w0 : World) (hr0_1 : Rd w0 (eI .u32) A0_1 c0_1 a0.Words) (hr0_2 : Rd w0 (eI .u8) A0_2 c0_2 a0.Bits) (hr0_3 : Rd w0 eS A0_3 c0_3 a0.Names) (H : rivetlaw12_LoadTwice a0 a1 = some r) :
    Calls Tryd.prog 3 #[.agg #[.slice A0_1 a0.Words.length c0_1, .slice A0_2 a0.Bits.length c0_2, .slice A0_3 a0.Names.length c0_3], .int .u16 a1] w0 fun e w' => e = .returned (.bool r) ∧ St [] w0 w' [] := by
 have hw : St [] w0 w0 [] := St.nil w0
 unfold rivetlaw12_LoadTwice at H
 refine go_fn Tryd.func3 rfl Tryd.ntmps3 ?_; intro a hs
 refine go_sk fun K1 hK1 => ?_
 obtain ⟨g2, wd3, hx4, hw⟩ := x_boxc (P := Tryd.prog) (elem := 26) (v := (Operand.tmp 0)) (ty := 0) (cs := [.slice A0_1 a0.Words.length c0_1, .slice A0_2 a0.Bits.length c0_2, .slice A0_3 a0.Names.length c0_3]) hs hw (by kernel_rfl)
 refine go_run hs (by rfl) hx4 [0] ?_; clear hs; intro a hs
 refine go_pvs 2 [] [] hs ?_; clear hs; intro a hs
 refine go_end (hK1 _ _ ?_)
 refine go_sk fun K6 hK6 => ?_
 obtain ⟨t8, hx9, H⟩ := bind_some H
 refine go_call hs (by rfl) (rivetlaw12_shown.calls t8 _ hx9) ?_
 rintro e wd10 ⟨rfl, hw11⟩
 refine ⟨_, rfl, ?_⟩
 replace hw := hw.call hw11
 clear hs; intro a hs
 refine go_pvs 2 [14] [(5, .bool t8)] hs ?_; clear hs; intro a hs
 refine go_end (hK6 _ _ ?_)
 refine go_sk fun K12 hK12 => ?_
 refine go_pvs 1 [] [(15, .pointer (some (⟨g2, 0, none⟩ : Addr)))] hs ?_; clear hs; intro a hs
 refine go_run hs (by rfl) (x_bld (g := g2) (o := 0) (p := (⟨g2, 0, none⟩ : Addr)) (v := .slice A0_1 a0.Words.length c0_1) (hw.up 0)) [15] ?_; clear hs; intro a hs
 refine go_pvs 3 [] [(17, .pointer (some (⟨g2, 1, none⟩ : Addr)))] hs ?_; clear hs; intro a hs
 refine go_run hs (by rfl) (x_bld (g := g2) (o := 1) (p := (⟨g2, 1, none⟩ : Addr)) (v := .slice A0_2 a0.Bits.length c0_2) (hw.up 0)) [17] ?_; clear hs; intro a hs
 refine go_pvs 5 [2] [(19, .pointer (some (⟨g2, 2, none⟩ : Addr)))] hs ?_; clear hs; intro a hs
 refine go_run hs (by rfl) (x_bld (g := g2) (o := 2) (p := (⟨g2, 2, none⟩ : Addr)) (v := .slice A0_3 a0.Names.length c0_3) (hw.up 0)) [19] ?_; clear hs; intro a hs
 obtain ⟨t14, hx15, H⟩ := bind_some H
 refine go_call hs (by rfl) (rivetref09_Fit.calls A0_1 c0_1 a0.Words A0_2 c0_2 a0.Bits A0_3 c0_3 a0.Names t14 _ (hr0_1.old hw) (hr0_2.old hw) (hr0_3.old hw) hx15) ?_
 rintro e wd22 ⟨Aa16, cc17, Aa18, cc19, Aa20, cc21, rfl, hw23⟩
 refine ⟨_, rfl, ?_⟩
 replace hw := hw.call hw23
 clear hs; intro a hs; replace hs := hs.rms [16, 18, 20]
 obtain ⟨g27, wd28, hx29, hw⟩ := x_allocc (P := Tryd.prog) (elem := 32) (ty := 0) (z := .agg #[.slice none 0 0, .slice none 0 0, .slice none 0 0]) (cs := [.slice none 0 0, .slice none 0 0, .slice none 0 0]) hs hw (by kernel_rfl) (by kernel_rfl)
 refine go_run hs (by rfl) hx29 [] ?_; clear hs; intro a hs
 replace hw := St.own_nil hw 38 (eI .u32)
 replace hw := St.own_nil hw 3 (eI .i64)
 replace hw := St.own_nil hw 72 eSapi_Sym
 replace hw : St [] w0 wd28 [own 72 eSapi_Sym none 0 ([] : List Sapi_Sym), own 3 (eI .i64) none 0 ([] : List Int), own 38 (eI .u32) none 0 ([] : List Int), box g27 32 [.slice none ([] : List Int).length 0, .slice none ([] : List Int).length 0, .slice none ([] : List Sapi_Sym).length 0], own 38 (eI .u32) Aa16 cc17 t14.Words, own 3 (eI .i64) Aa18 cc19 t14.Sites, own 72 eSapi_Sym Aa20 cc21 t14.Syms, box g2 26 [.slice A0_1 a0.Words.length c0_1, .slice A0_2 a0.Bits.length c0_2, .slice A0_3 a0.Names.length c0_3]] := hw
 replace hw := hw.up 3
 obtain ⟨wd34, hx35, hw⟩ := x_bput (P := Tryd.prog) (ty := 0) (t := 32) (y := (Operand.tmp 6)) (z := (Operand.tmp 21)) (o := 0) (p := (⟨g27, 0, none⟩ : Addr)) (v := .agg #[.slice Aa16 t14.Words.length cc17, .slice Aa18 t14.Sites.length cc19, .slice Aa20 t14.Syms.length cc21]) (vs := [.slice Aa16 t14.Words.length cc17, .slice Aa18 t14.Sites.length cc19, .slice Aa20 t14.Syms.length cc21]) (cs' := [.slice Aa16 t14.Words.length cc17, .slice Aa18 t14.Sites.length cc19, .slice Aa20 t14.Syms.length cc21]) hs hw (by kernel_rfl) rfl (by kernel_rfl) rfl (by kernel_rfl) (by kernel_rfl) (by simp [Value.oneCell']) rfl
 refine go_unit hs (by rfl) hx35 [21] ?_; clear hs; intro a hs
 refine go_end (hK12 _ _ ?_)
 refine go_sk fun K36 hK36 => ?_
 obtain ⟨Aa37, cc38, wd39, hx40, hw⟩ := n_lit0 (P := Tryd.prog) (t := 22) (ty := 22) (T := 38) hs hw (eI .u32) (by kernel_rfl) (by kernel_rfl)
 refine go_run hs (by rfl) hx40 [] ?_; clear hs; intro a hs
 refine go_pvs 2 [] [(23, .pointer (some (⟨g27, 0, none⟩ : Addr)))] hs ?_; clear hs; intro a hs
 refine go_run hs (by rfl) (x_bld (g := g27) (o := 0) (p := (⟨g27, 0, none⟩ : Addr)) (v := .slice Aa16 t14.Words.length cc17) (hw.up 1)) [23] ?_; clear hs; intro a hs
 obtain ⟨hp42, H⟩ := ite_only H
 have hsrc47 : Src Tryd.prog (eI .u32).sz 22 (.slice Aa16 t14.Words.length cc17) t14.Words.length (t14.Words.flatMap (eI .u32).enc) _ := (Src.of_rd (E := (eI .u32)) (e' := 38) (by kernel_rfl) (Rd.of_own (hw.up 5)))
 obtain ⟨Aa43, cc44, wd45, hx46, hw⟩ := x_append (P := Tryd.prog) (t := 22) (tx := 22) (ty := 22) (x := (Operand.tmp 22)) (y := (Operand.tmp 24)) (z := .int .u32 0) (bytes := 4) (l2 := t14.Words) hs hw (by kernel_rfl) (by kernel_rfl) (by kernel_rfl) (by kernel_rfl) (by kernel_rfl) hsrc47 (by omega) (by omega)
 refine go_run hs (by rfl) hx46 [22, 24] ?_; clear hs; intro a hs
 refine go_pvs 5 [25] [(7, .slice Aa43 (([] : List Int) ++ t14.Words).length cc44)] hs ?_; clear hs; intro a hs
 refine go_end (hK36 _ _ ?_)
 refine go_sk fun K48 hK48 => ?_
 refine go_run hs (by rfl) (x_blds (g := g27) (o := 0) (p := (⟨g27, 0, none⟩ : Addr)) (vs := [.slice Aa16 t14.Words.length cc17, .slice Aa18 t14.Sites.length cc19, .slice Aa20 t14.Syms.length cc21]) (hw.up 1)) [] ?_; clear hs; intro a hs
 obtain ⟨⟨t50, t51⟩, hx52, H⟩ := bind_some H
 refine go_call hs (by rfl) (load_Image.calls t14 Aa16 cc17 Aa18 cc19 Aa20 cc21 0 (t50, t51) _ (Rd.of_own (hw.up 5)) (Rd.of_own (hw.up 6)) (Rd.of_own (hw.up 7)) hx52) ?_
 rintro e wd55 ⟨Aa53, cc54, rfl, hw56⟩
 refine ⟨_, rfl, ?_⟩
 replace hw := hw.call hw56
 clear hs; intro a hs; replace hs := hs.rms [27]
 refine go_pvs 7 [28] [(8, .slice Aa53 t50.length cc54), (9, .int .i64 t51)] hs ?_; clear hs; intro a hs
 refine go_end (hK48 _ _ ?_)
 refine go_sk fun K58 hK58 => ?_
 refine go_pvs 2 [] [(31, .slice Aa53 t50.length cc54), (32, .slice Aa43 (([] : List Int) ++ t14.Words).length cc44)] hs ?_; clear hs; intro a hs
 obtain ⟨t60, hx61, H⟩ := bind_some H
 refine go_call hs (by rfl) (rivetref05_Same.calls Aa53 cc54 t50 Aa43 cc44 (([] : List Int) ++ t14.Words) t60 _ (Rd.of_own (hw.up 0)) (Rd.of_own (hw.up 1)) hx61) ?_
 rintro e wd62 ⟨rfl, hw63⟩
 refine ⟨_, rfl, ?_⟩
 replace hw := hw.call hw63
 clear hs; intro a hs; replace hs := hs.rms [31, 32]
 refine go_pvs 4 [33] [(10, .bool t60)] hs ?_; clear hs; intro a hs
 refine go_end (hK58 _ _ ?_)
 refine go_seq_k fun K64 hK64 => ?_
 refine go_sp [] [(11, .int .i64 0)] hs ?_; clear hs; intro a hs
 replace hs : Slots a 77 [(1, .int .u16 a1), (5, .bool t8), (6, .pointer (some (⟨g27, 0, none⟩ : Addr))), (7, .slice Aa43 (([] : List Int) ++ t14.Words).length cc44), (8, .slice Aa53 t50.length cc54), (9, .int .i64 t51), (10, .bool t60), (11, .int .i64 0)] := hs.kx
 refine wp_block ?_
 obtain ⟨e66, hl66, HX66⟩ := bind_some H
 have hJ1 : ∀ (l78 : List Int) (a : Act) (w : World), Slots a 77 [(1, .int .u16 a1), (5, .bool t8), (6, .pointer (some (⟨g27, 0, none⟩ : Addr))), (7, .slice Aa43 (([] : List Int) ++ t14.Words).length cc44), (9, .int .i64 t51), (10, .bool t60)] → St [] w0 w [own 38 (eI .u32) Aa53 cc54 l78, own 38 (eI .u32) Aa43 cc44 (([] : List Int) ++ t14.Words), box g27 32 [.slice Aa16 t14.Words.length cc17, .slice Aa18 t14.Sites.length cc19, .slice Aa20 t14.Syms.length cc21], own 72 eSapi_Sym none 0 ([] : List Sapi_Sym), own 3 (eI .i64) none 0 ([] : List Int), own 38 (eI .u32) none 0 ([] : List Int), own 38 (eI .u32) Aa16 cc17 t14.Words, own 3 (eI .i64) Aa18 cc19 t14.Sites, own 72 eSapi_Sym Aa20 cc21 t14.Syms, box g2 26 [.slice A0_1 a0.Words.length c0_1, .slice A0_2 a0.Bits.length c0_2, .slice A0_3 a0.Names.length c0_3]] → rivetlaw12_LoadTwice.j1 t14 a1 t8 t51 t60 l78 = some r → K64 a w := by
  intro l78 a w hs hw H
  unfold rivetlaw12_LoadTwice.j1 at H
  refine hK64 _ _ ?_
  refine go_sk fun K79 hK79 => ?_
  refine go_pvs 1 [] [(44, .pointer (some (⟨g27, 0, none⟩ : Addr)))] hs ?_; clear hs; intro a hs
  refine go_run hs (by rfl) (x_bld (g := g27) (o := 0) (p := (⟨g27, 0, none⟩ : Addr)) (v := .slice Aa16 t14.Words.length cc17) (hw.up 2)) [44] ?_; clear hs; intro a hs
  refine go_pvs 7 [1, 45] [(46, .agg #[.slice Aa16 t14.Words.length cc17, .slice none 0 0, .slice none 0 0]), (50, .int .i64 (w64 (4 * ((w64 a1).tmod 4097))))] hs ?_; clear hs; intro a hs
  obtain ⟨⟨t81, t82⟩, hx83, H⟩ := bind_some H
  refine go_call hs (by rfl) (load_Image.calls (⟨t14.Words, ([] : List Int), ([] : List Sapi_Sym)⟩ : Sapi_Obj) Aa16 cc17 none 0 none 0 (w64 (4 * ((w64 a1).tmod 4097))) (t81, t82) _ (Rd.of_own (hw.up 6)) (Rd.nil _ _) (Rd.nil _ _) hx83) ?_
  rintro e wd86 ⟨Aa84, cc85, rfl, hw87⟩
  refine ⟨_, rfl, ?_⟩
  replace hw := hw.call hw87
  clear hs; intro a hs; replace hs := hs.rms [46, 50]
  refine go_pvs 13 [51] [(12, .slice Aa84 t81.length cc85), (13, .int .i64 t82)] hs ?_; clear hs; intro a hs
  refine go_end (hK79 _ _ ?_)
  refine go_seq_k fun K89 hK89 => ?_
  have hJ2 : ∀ (v105 : Bool) (a : Act) (w : World), Slots a 77 [(4, .bool v105)] → St [] w0 w [own 38 (eI .u32) Aa84 cc85 t81, own 38 (eI .u32) Aa53 cc54 l78, own 38 (eI .u32) Aa43 cc44 (([] : List Int) ++ t14.Words), box g27 32 [.slice Aa16 t14.Words.length cc17, .slice Aa18 t14.Sites.length cc19, .slice Aa20 t14.Syms.length cc21], own 72 eSapi_Sym none 0 ([] : List Sapi_Sym), own 3 (eI .i64) none 0 ([] : List Int), own 38 (eI .u32) none 0 ([] : List Int), own 38 (eI .u32) Aa16 cc17 t14.Words, own 3 (eI .i64) Aa18 cc19 t14.Sites, own 72 eSapi_Sym Aa20 cc21 t14.Syms, box g2 26 [.slice A0_1 a0.Words.length c0_1, .slice A0_2 a0.Bits.length c0_2, .slice A0_3 a0.Names.length c0_3]] → rivetlaw12_LoadTwice.j2 v105 = some r → K89 a w := by
   intro v105 a w hs hw H
   unfold rivetlaw12_LoadTwice.j2 at H
   refine hK89 _ _ ?_
   refine wp_ret ?_
   obtain rfl := Option.some.inj H
   refine ret1 (t := 4) (v := .bool v105) hs (by kernel_rfl) (by kernel_rfl) ?_
   exact ⟨rfl, hw.only 0⟩
  refine go_region ?_
  refine go_pvs 2 [5] [(55, .bool t8)] hs ?_; clear hs; intro a hs
  cases hb90 : t8
  ·replace H := ite_f H (ff hb90)
   rw [hb90] at hs
   refine go_pvs 24 [6, 7, 9, 10, 12, 13, 55] [(4, .bool false)] hs ?_; clear hs; intro a hs
   refine go_end ?_
   replace hw := hw.up 10
   replace hw := hw.up 10
   replace hw := hw.up 10
   replace hw := hw.up 10
   replace hw := hw.up 10
   replace hw := hw.up 10
   replace hw := hw.up 10
   replace hw := hw.up 10
   replace hw := hw.up 10
   replace hw := hw.up 10
   replace hw := hw.up 10
   exact hJ2 false _ _ hs.kx hw H
  ·replace H := ite_t H hb90
   rw [hb90] at hs
   refine go_pvs 6 [9, 55] [(59, .bool (t51 == 0))] hs ?_; clear hs; intro a hs
   cases hb91 : (t51 == 0)
   ·replace H := ite_f H (beq_eq_false_iff_ne.1 hb91)
    rw [hb91] at hs
    refine go_pvs 24 [6, 7, 10, 12, 13, 59] [(4, .bool false)] hs ?_; clear hs; intro a hs
    refine go_end ?_
    replace hw := hw.up 10
    replace hw := hw.up 10
    replace hw := hw.up 10
    replace hw := hw.up 10
    replace hw := hw.up 10
    replace hw := hw.up 10
    replace hw := hw.up 10
    replace hw := hw.up 10
    replace hw := hw.up 10
    replace hw := hw.up 10
    replace hw := hw.up 10
    exact hJ2 false _ _ hs.kx hw H
   ·replace H := ite_t H (beq_iff_eq.1 hb91)
    rw [hb91] at hs
    refine go_pvs 10 [13, 59] [(63, .bool (t82 == 0))] hs ?_; clear hs; intro a hs
    cases hb92 : (t82 == 0)
    ·replace H := ite_f H (beq_eq_false_iff_ne.1 hb92)
     rw [hb92] at hs
     refine go_pvs 24 [6, 7, 10, 12, 63] [(4, .bool false)] hs ?_; clear hs; intro a hs
     refine go_end ?_
     replace hw := hw.up 10
     replace hw := hw.up 10
     replace hw := hw.up 10
     replace hw := hw.up 10
     replace hw := hw.up 10
     replace hw := hw.up 10
     replace hw := hw.up 10
     replace hw := hw.up 10
     replace hw := hw.up 10
     replace hw := hw.up 10
     replace hw := hw.up 10
     exact hJ2 false _ _ hs.kx hw H
    ·replace H := ite_t H (beq_iff_eq.1 hb92)
     rw [hb92] at hs
     refine go_pvs 13 [10, 63] [(66, .bool t60)] hs ?_; clear hs; intro a hs
     cases hb93 : t60
     ·replace H := ite_f H (ff hb93)
      rw [hb93] at hs
      refine go_pvs 24 [6, 7, 12, 66] [(4, .bool false)] hs ?_; clear hs; intro a hs
      refine go_end ?_
      replace hw := hw.up 10
      replace hw := hw.up 10
      replace hw := hw.up 10
      replace hw := hw.up 10
      replace hw := hw.up 10
      replace hw := hw.up 10
      replace hw := hw.up 10
      replace hw := hw.up 10
      replace hw := hw.up 10
      replace hw := hw.up 10
      replace hw := hw.up 10
      exact hJ2 false _ _ hs.kx hw H
     ·replace H := ite_t H hb93
      rw [hb93] at hs
      refine go_pvs 14 [6] [(67, .pointer (some (⟨g27, 0, none⟩ : Addr)))] hs ?_; clear hs; intro a hs
      refine go_run hs (by rfl) (x_bld (g := g27) (o := 0) (p := (⟨g27, 0, none⟩ : Addr)) (v := .slice Aa16 t14.Words.length cc17) (hw.up 3)) [67] ?_; clear hs; intro a hs
      refine go_pvs 16 [] [(69, .slice Aa43 (([] : List Int) ++ t14.Words).length cc44)] hs ?_; clear hs; intro a hs
      obtain ⟨t95, hx96, H⟩ := bind_some H
      refine go_call hs (by rfl) (rivetref05_Same.calls Aa16 cc17 t14.Words Aa43 cc44 (([] : List Int) ++ t14.Words) t95 _ (Rd.of_own (hw.up 7)) (Rd.of_own (hw.up 2)) hx96) ?_
      rintro e wd97 ⟨rfl, hw98⟩
      refine ⟨_, rfl, ?_⟩
      replace hw := hw.call hw98
      clear hs; intro a hs; replace hs := hs.rms [68, 69]
      refine go_pvs 19 [66, 70] [(72, .bool t95)] hs ?_; clear hs; intro a hs
      cases hb99 : t95
      ·replace H := ite_f H (ff hb99)
       rw [hb99] at hs
       refine go_pvs 24 [7, 12, 72] [(4, .bool false)] hs ?_; clear hs; intro a hs
       refine go_end ?_
       replace hw := hw.up 10
       replace hw := hw.up 10
       replace hw := hw.up 10
       replace hw := hw.up 10
       replace hw := hw.up 10
       replace hw := hw.up 10
       replace hw := hw.up 10
       replace hw := hw.up 10
       replace hw := hw.up 10
       replace hw := hw.up 10
       replace hw := hw.up 10
       exact hJ2 false _ _ hs.kx hw H
      ·replace H := ite_t H hb99
       rw [hb99] at hs
       refine go_pvs 21 [7, 12] [(73, .slice Aa84 t81.length cc85), (74, .slice Aa43 (([] : List Int) ++ t14.Words).length cc44)] hs ?_; clear hs; intro a hs
       obtain ⟨t101, hx102, H⟩ := bind_some H
       refine go_call hs (by rfl) (rivetref05_Same.calls Aa84 cc85 t81 Aa43 cc44 (([] : List Int) ++ t14.Words) t101 _ (Rd.of_own (hw.up 0)) (Rd.of_own (hw.up 2)) hx102) ?_
       rintro e wd103 ⟨rfl, hw104⟩
       refine ⟨_, rfl, ?_⟩
       replace hw := hw.call hw104
       clear hs; intro a hs; replace hs := hs.rms [73, 74]
       refine go_pvs 24 [72, 75] [(4, .bool t101)] hs ?_; clear hs; intro a hs
       refine go_end ?_
       replace hw := hw.up 10
       replace hw := hw.up 10
       replace hw := hw.up 10
       replace hw := hw.up 10
       replace hw := hw.up 10
       replace hw := hw.up 10
       replace hw := hw.up 10
       replace hw := hw.up 10
       replace hw := hw.up 10
       replace hw := hw.up 10
       replace hw := hw.up 10
       exact hJ2 t101 _ _ hs.kx hw H
 clear H
 refine go_loop (σ := (List Int) × Int) (fun σ a w => Slots a 77 [(1, .int .u16 a1), (5, .bool t8), (6, .pointer (some (⟨g27, 0, none⟩ : Addr))), (7, .slice Aa43 (([] : List Int) ++ t14.Words).length cc44), (8, .slice Aa53 σ.1.length cc54), (9, .int .i64 t51), (10, .bool t60), (11, .int .i64 σ.2)] ∧ St [] w0 w [own 38 (eI .u32) Aa53 cc54 σ.1, own 38 (eI .u32) Aa43 cc44 (([] : List Int) ++ t14.Words), box g27 32 [.slice Aa16 t14.Words.length cc17, .slice Aa18 t14.Sites.length cc19, .slice Aa20 t14.Syms.length cc21], own 72 eSapi_Sym none 0 ([] : List Sapi_Sym), own 3 (eI .i64) none 0 ([] : List Int), own 38 (eI .u32) none 0 ([] : List Int), own 38 (eI .u32) Aa16 cc17 t14.Words, own 3 (eI .i64) Aa18 cc19 t14.Sites, own 72 eSapi_Sym Aa20 cc21 t14.Syms, box g2 26 [.slice A0_1 a0.Words.length c0_1, .slice A0_2 a0.Bits.length c0_2, .slice A0_3 a0.Names.length c0_3]]) hl66 (by exact ⟨hs.kx, hw⟩) ?_
 rintro ⟨l67, v68⟩ a w ⟨hs, hw⟩ o H hr66
 replace hs : Slots a 77 [(1, .int .u16 a1), (5, .bool t8), (6, .pointer (some (⟨g27, 0, none⟩ : Addr))), (7, .slice Aa43 (([] : List Int) ++ t14.Words).length cc44), (8, .slice Aa53 l67.length cc54), (9, .int .i64 t51), (10, .bool t60), (11, .int .i64 v68)] := hs
 replace hw : St [] w0 w [own 38 (eI .u32) Aa53 cc54 l67, own 38 (eI .u32) Aa43 cc44 (([] : List Int) ++ t14.Words), box g27 32 [.slice Aa16 t14.Words.length cc17, .slice Aa18 t14.Sites.length cc19, .slice Aa20 t14.Syms.length cc21], own 72 eSapi_Sym none 0 ([] : List Sapi_Sym), own 3 (eI .i64) none 0 ([] : List Int), own 38 (eI .u32) none 0 ([] : List Int), own 38 (eI .u32) Aa16 cc17 t14.Words, own 3 (eI .i64) Aa18 cc19 t14.Sites, own 72 eSapi_Sym Aa20 cc21 t14.Syms, box g2 26 [.slice A0_1 a0.Words.length c0_1, .slice A0_2 a0.Bits.length c0_2, .slice A0_3 a0.Names.length c0_3]] := hw
 replace H : rivetlaw12_LoadTwice.b66 l67 v68 = some o := H
 unfold rivetlaw12_LoadTwice.b66 at H
 refine go_seq_k fun K69 hK69 => ?_
 refine go_sp [] [(37, .bool (decide (v68 < (l67.length : Int))))] hs ?_; clear hs; intro a hs
 refine go_cond hs (decide (v68 < (l67.length : Int))) (fun hc => ?_) fun hc => ?_
 ·replace H := ite_t H (of_decide_eq_true hc)
  have hb71 := hc
  rw [hb71] at hs
  refine wp_skip ?_
  refine hK69 _ _ ?_
  refine go_seq_k fun K72 hK72 => ?_
  refine wp_block ?_
  refine go_region ?_
  refine go_pvs 2 [37] [(40, .slice Aa53 l67.length cc54), (41, .int .i64 v68)] hs ?_; clear hs; intro a hs
  obtain ⟨hp73, H⟩ := ite_only H
  obtain ⟨ad74, rfl⟩ := (Rd.of_own (hw.up 0)).some hp73.1 hp73.2
  refine go_run hs (by rfl) (x_idx (T := 38) (sz := 1) (a := ad74) (n := l67.length) (cap := cc54) (k := .i64) (i := v68) hp73) [40, 41] ?_; clear hs; intro a hs
  obtain ⟨wd75, hx76, hw⟩ := x_put (P := Tryd.prog) (ty := 0) (t := 38) (x := (Operand.tmp 42)) (y := (Operand.const (Value.int IntKind.u32 7))) (off := 0) (p := ad74.add (v68.toNat * 1)) (v := .int .u32 7) (vs := [.int .u32 7]) (i := v68) (e' := (7 : Int)) hs hw rfl hp73.1 hp73.2 (by kernel_rfl) rfl (by kernel_rfl) rfl (by kernel_rfl) (Nat.le_of_ble_eq_true rfl) (by simp [Value.oneCell']) (by kernel_rfl)
  refine go_unit hs (by rfl) hx76 [42] ?_; clear hs; intro a hs
  replace hs : Slots a 77 [(1, .int .u16 a1), (5, .bool t8), (6, .pointer (some (⟨g27, 0, none⟩ : Addr))), (7, .slice Aa43 (([] : List Int) ++ t14.Words).length cc44), (8, .slice (some ad74) (l67.set (v68 : Int).toNat 7).length cc54), (9, .int .i64 t51), (10, .bool t60), (11, .int .i64 v68)] := by rw [show (l67.set (v68 : Int).toNat 7).length = (l67).length from List.length_set]; exact hs.kx
  refine go_end ?_
  refine ib_norm ?_
  refine hK72 _ _ ?_
  refine go_plain [] [(11, .int .i64 (w64 (v68 + 1)))] hs ?_; clear hs; intro a hs
  replace hw := hw.up 9
  replace hw := hw.up 9
  replace hw := hw.up 9
  replace hw := hw.up 9
  replace hw := hw.up 9
  replace hw := hw.up 9
  replace hw := hw.up 9
  replace hw := hw.up 9
  replace hw := hw.up 9
  replace hw := hw.up 9
  exact round_end (l67.set (v68 : Int).toNat 7, w64 (v68 + 1)) (Option.some.inj H).symm ⟨hs.kx, hw⟩
 ·replace H := ite_f H (of_decide_eq_false hc)
  have hb77 := hc
  rw [hb77] at hs
  refine wp_exit ?_
  refine th_exit ?_
  refine th_exit ?_
  refine in_block ?_
  replace hw := hw.up 9
  replace hw := hw.up 9
  replace hw := hw.up 9
  replace hw := hw.up 9
  replace hw := hw.up 9
  replace hw := hw.up 9
  replace hw := hw.up 9
  replace hw := hw.up 9
  replace hw := hw.up 9
  replace hw := hw.up 9
  rw [← hr66 _ (Option.some.inj H).symm] at HX66
  exact hJ1 l67 _ _ hs.kx hw HX66

end Go.Proofs.YtheccnbamcdpmaaDoor.T12
