/- YtmfnololpfdfdaaDoorT09zFileNames: Go functions told as plain ones, each with a proof that its call comes to what is told, part 1. Condition of each: that the plain function comes to a value. -/
import Derived.Test.YtmfnololpfdfdaaDoorT10
import Derived.Test.YtmfnololpfdfdaaDoorEO
import Derived.Test.YtmfnololpfdfdaaDoorProg
namespace Go.Proofs.YtmfnololpfdfdaaDoor.T09
open Go Go.RowKit Go.Proofs.YtmfnololpfdfdaaDoor.E
set_option linter.unusedVariables false
set_option linter.unusedSimpArgs false
structure Srivetlaw10_Parts where
  Words : List Int
  Bits : List Int
  Names : List ByteArray
def okSrivetlaw10_Parts (x : Srivetlaw10_Parts) : Prop := (∀ n ∈ x.Words, In .u32 n) ∧ x.Words.length * 4 ≤ 140737488351232 ∧ (∀ n ∈ x.Bits, In .u8 n) ∧ x.Bits.length * 1 ≤ 140737488351232 ∧ (∀ n ∈ x.Names, n.size ≤ 140737488351232) ∧ x.Names.length * 16 ≤ 140737488351232
def mSrivetlaw10_Parts (A : Option Addr) (x : Srivetlaw10_Parts) : Asn := fun L => ∃ g A1 c1 A2 c2 A3 c3, A = some ⟨g, 0, none⟩ ∧ Cov [box g 48 [.slice A1 x.Words.length c1, .slice A2 x.Bits.length c2, .slice A3 x.Names.length c3], own 37 (eI .u32) A1 c1 x.Words, own 5 (eI .u8) A2 c2 x.Bits, own 9 eS A3 c3 x.Names] L
theorem mSrivetlaw10_Parts.open {G : List Nat} {w0 w : World} {As : List Asn} {A : Option Addr} {x : Srivetlaw10_Parts} (h : St G w0 w (mSrivetlaw10_Parts A x :: As)) : ∃ g A1 c1 A2 c2 A3 c3, A = some ⟨g, 0, none⟩ ∧ St G w0 w ([box g 48 [.slice A1 x.Words.length c1, .slice A2 x.Bits.length c2, .slice A3 x.Names.length c3], own 37 (eI .u32) A1 c1 x.Words, own 5 (eI .u8) A2 c2 x.Bits, own 9 eS A3 c3 x.Names] ++ As) := by
  obtain ⟨L, ⟨L1, L2, rfl, ⟨g, A1, c1, A2, c2, A3, c3, rfl, hc⟩, hr⟩, hs⟩ := h
  exact ⟨g, A1, c1, A2, c2, A3, c3, rfl, _, Cov.join hr hc, hs⟩
theorem mSrivetlaw10_Parts.open1 {G : List Nat} {w0 w : World} {As : List Asn} {g : Nat} {x : Srivetlaw10_Parts} (h : St G w0 w (mSrivetlaw10_Parts (some ⟨g, 0, none⟩) x :: As)) : ∃ A1 c1 A2 c2 A3 c3, St G w0 w ([box g 48 [.slice A1 x.Words.length c1, .slice A2 x.Bits.length c2, .slice A3 x.Names.length c3], own 37 (eI .u32) A1 c1 x.Words, own 5 (eI .u8) A2 c2 x.Bits, own 9 eS A3 c3 x.Names] ++ As) := by
  obtain ⟨g', A1, c1, A2, c2, A3, c3, hg, h⟩ := mSrivetlaw10_Parts.open h
  cases hg
  exact ⟨A1, c1, A2, c2, A3, c3, h⟩
theorem mSrivetlaw10_Parts.close {G : List Nat} {w0 w : World} {As : List Asn} {g : Nat} {A1 : Option Addr} {c1 : Nat} {A2 : Option Addr} {c2 : Nat} {A3 : Option Addr} {c3 : Nat} {x : Srivetlaw10_Parts} (h : St G w0 w ([box g 48 [.slice A1 x.Words.length c1, .slice A2 x.Bits.length c2, .slice A3 x.Names.length c3], own 37 (eI .u32) A1 c1 x.Words, own 5 (eI .u8) A2 c2 x.Bits, own 9 eS A3 c3 x.Names] ++ As)) : St G w0 w (mSrivetlaw10_Parts (some ⟨g, 0, none⟩) x :: As) := by
  obtain ⟨L, hc, hs⟩ := h
  obtain ⟨L1, L2, rfl, h1, h2⟩ := Cov.split (Gs := [box g 48 [.slice A1 x.Words.length c1, .slice A2 x.Bits.length c2, .slice A3 x.Names.length c3], own 37 (eI .u32) A1 c1 x.Words, own 5 (eI .u8) A2 c2 x.Bits, own 9 eS A3 c3 x.Names]) hc
  exact ⟨_, ⟨L1, L2, rfl, ⟨g, A1, c1, A2, c2, A3, c3, rfl, h1⟩, h2⟩, hs⟩
/-! rivet/rivetlaw10.FileNames: function 10 -/
noncomputable def rivetlaw10_FileNames.j4 (v258 : Bool) : Option Bool := some v258
noncomputable def rivetlaw10_FileNames.j3 (t170 : Int) (t169 : Sapi_Obj) (t195 : Int) (t226 : Int) (v250 : Bool) : Option Bool := (if ((t170 == 0) == v250) = true then (if v250 = true then (if (t169.Syms.length : Int) = 2 then (if t195 = 6 then rivetlaw10_FileNames.j4 (t226 == 3) else rivetlaw10_FileNames.j4 false) else rivetlaw10_FileNames.j4 false) else (if t170 = 6 then (if t195 = 6 then rivetlaw10_FileNames.j4 (t226 == 3) else rivetlaw10_FileNames.j4 false) else rivetlaw10_FileNames.j4 false)) else rivetlaw10_FileNames.j4 false)
noncomputable def rivetlaw10_FileNames.j2 (t38 : List Int) (a1 : Int) (t14 : Sapi_Obj) : Option Bool := (if 0 ≤ (12 : Int) ∧ (12 : Int) < (t38.length : Int) then ((le_PutName (⟨#[120]⟩ : ByteArray)).bind fun ⟨t61, t62⟩ => (((le_PutName (⟨#[121]⟩ : ByteArray)).bind fun ⟨t71, t72⟩ => (((le_Put ([wu32 a1] : List Int)).bind fun t86 => ((if ([] : List Int).length + (t38.set ((12 : Int) : Int).toNat 2).length ≤ 140737488355328 then (if (([] : List Int) ++ (t38.set ((12 : Int) : Int).toNat 2)).length + t61.length ≤ 140737488355328 then (if ((([] : List Int) ++ (t38.set ((12 : Int) : Int).toNat 2)) ++ t61).length + t86.length ≤ 140737488355328 then (if (((([] : List Int) ++ (t38.set ((12 : Int) : Int).toNat 2)) ++ t61) ++ t86).length + t71.length ≤ 140737488355328 then (if ((((([] : List Int) ++ (t38.set ((12 : Int) : Int).toNat 2)) ++ t61) ++ t86) ++ t71).length + t86.length ≤ 140737488355328 then (if ([] : List Int).length + (t38.set ((12 : Int) : Int).toNat 2).length ≤ 140737488355328 then (if (([] : List Int) ++ (t38.set ((12 : Int) : Int).toNat 2)).length + t71.length ≤ 140737488355328 then (if ((([] : List Int) ++ (t38.set ((12 : Int) : Int).toNat 2)) ++ t71).length + t86.length ≤ 140737488355328 then (if (((([] : List Int) ++ (t38.set ((12 : Int) : Int).toNat 2)) ++ t71) ++ t86).length + t61.length ≤ 140737488355328 then (if ((((([] : List Int) ++ (t38.set ((12 : Int) : Int).toNat 2)) ++ t71) ++ t86) ++ t61).length + t86.length ≤ 140737488355328 then ((file_Take (((((([] : List Int) ++ (t38.set ((12 : Int) : Int).toNat 2)) ++ t61) ++ t86) ++ t71) ++ t86)).bind fun ⟨t169, t170⟩ => (((file_Take (((((([] : List Int) ++ (t38.set ((12 : Int) : Int).toNat 2)) ++ t71) ++ t86) ++ t61) ++ t86)).bind fun ⟨t194, t195⟩ => ((if 0 ≤ (w64 (((((((([] : List Int) ++ (t38.set ((12 : Int) : Int).toNat 2)) ++ t61) ++ t86) ++ t71) ++ t86).length : Int) - 1)) ∧ (w64 (((((((([] : List Int) ++ (t38.set ((12 : Int) : Int).toNat 2)) ++ t61) ++ t86) ++ t71) ++ t86).length : Int) - 1)) ≤ ((((((([] : List Int) ++ (t38.set ((12 : Int) : Int).toNat 2)) ++ t61) ++ t86) ++ t71) ++ t86).length : Int) then ((file_Take ((((((([] : List Int) ++ (t38.set ((12 : Int) : Int).toNat 2)) ++ t61) ++ t86) ++ t71) ++ t86).take (w64 (((((((([] : List Int) ++ (t38.set ((12 : Int) : Int).toNat 2)) ++ t61) ++ t86) ++ t71) ++ t86).length : Int) - 1) : Int).toNat)).bind fun ⟨t225, t226⟩ => ((if (a1.tmod 4) = 0 then rivetlaw10_FileNames.j3 t170 t169 t195 t226 (decide ((w64 a1) ≤ (w64 (4 * (t14.Words.length : Int))))) else rivetlaw10_FileNames.j3 t170 t169 t195 t226 false))) else none))))) else none) else none) else none) else none) else none) else none) else none) else none) else none) else none))))))) else none)
noncomputable def rivetlaw10_FileNames.j1 (t38 : List Int) (a1 : Int) (t14 : Sapi_Obj) (v50 : Bool) : Option Bool := (if v50 = true then some false else rivetlaw10_FileNames.j2 t38 a1 t14)
noncomputable def rivetlaw10_FileNames (a0 : Srivetlaw10_Parts) (a1 : Int) : Option Bool := ((rivetlaw10_shown).bind fun t8 => (((rivetref09_Fit a0.Words a0.Bits ([] : List ByteArray)).bind fun t14 => (((file_Put t14).bind fun ⟨t38, t39⟩ => ((if t8 = true then (if t39 = 0 then rivetlaw10_FileNames.j1 t38 a1 t14 (decide ((t38.length : Int) < 16)) else rivetlaw10_FileNames.j1 t38 a1 t14 true) else rivetlaw10_FileNames.j1 t38 a1 t14 true)))))))
set_option maxRecDepth 100000 in
set_option maxHeartbeats 4000000 in
theorem rivetlaw10_FileNames.calls (a0 : Srivetlaw10_Parts) (A0_1 : Option Addr) (c0_1 : Nat) (A0_2 : Option Addr) (c0_2 : Nat) (A0_3 : Option Addr) (c0_3 : Nat) (a1 : Int) (r : Bool) (w0 : World) (hr0_1 : Rd w0 (eI .u32) A0_1 c0_1 a0.Words) (hr0_2 : Rd w0 (eI .u8) A0_2 c0_2 a0.Bits) (hr0_3 : Rd w0 eS A0_3 c0_3 a0.Names) (H : rivetlaw10_FileNames a0 a1 = some r) :
    Calls Tryd.prog 10 #[.agg #[.slice A0_1 a0.Words.length c0_1, .slice A0_2 a0.Bits.length c0_2, .slice A0_3 a0.Names.length c0_3], .int .u16 a1] w0 fun e w' => e = .returned (.bool r) ∧ St [] w0 w' [] := by
 have hw : St [] w0 w0 [] := St.nil w0
 unfold rivetlaw10_FileNames at H
 refine go_fn Tryd.func10 rfl Tryd.ntmps10 ?_; intro a hs
 refine go_sk fun K1 hK1 => ?_
 obtain ⟨g2, wd3, hx4, hw⟩ := x_boxc (P := Tryd.prog) (elem := 48) (v := (Operand.tmp 0)) (ty := 0) (cs := [.slice A0_1 a0.Words.length c0_1, .slice A0_2 a0.Bits.length c0_2, .slice A0_3 a0.Names.length c0_3]) hs hw (by kernel_rfl)
 refine go_run hs (by rfl) hx4 [0] ?_; clear hs; intro a hs
 refine go_pvs 2 [] [] hs ?_; clear hs; intro a hs
 refine go_end (hK1 _ _ ?_)
 refine go_sk fun K6 hK6 => ?_
 obtain ⟨t8, hx9, H⟩ := bind_some H
 refine go_call hs (by rfl) (rivetlaw10_shown.calls t8 _ hx9) ?_
 rintro e wd10 ⟨rfl, hw11⟩
 refine ⟨_, rfl, ?_⟩
 replace hw := hw.call hw11
 clear hs; intro a hs
 refine go_pvs 2 [23] [(5, .bool t8)] hs ?_; clear hs; intro a hs
 refine go_end (hK6 _ _ ?_)
 refine go_sk fun K12 hK12 => ?_
 refine go_pvs 1 [] [(24, .pointer (some (((⟨g2, 0, none⟩ : Addr) : Addr).add 0)))] hs ?_; clear hs; intro a hs
 refine go_run hs (by rfl) (x_bld (g := g2) (o := 0) (p := ((⟨g2, 0, none⟩ : Addr) : Addr).add 0) (v := .slice A0_1 a0.Words.length c0_1) (hw.up 0)) [24] ?_; clear hs; intro a hs
 refine go_pvs 3 [2] [(26, .pointer (some (((⟨g2, 0, none⟩ : Addr) : Addr).add 1)))] hs ?_; clear hs; intro a hs
 refine go_run hs (by rfl) (x_bld (g := g2) (o := 1) (p := ((⟨g2, 0, none⟩ : Addr) : Addr).add 1) (v := .slice A0_2 a0.Bits.length c0_2) (hw.up 0)) [26] ?_; clear hs; intro a hs
 obtain ⟨t14, hx15, H⟩ := bind_some H
 refine go_call hs (by rfl) (rivetref09_Fit.calls A0_1 c0_1 a0.Words A0_2 c0_2 a0.Bits none 0 ([] : List ByteArray) t14 _ (hr0_1.old hw) (hr0_2.old hw) (Rd.nil _ _) hx15) ?_
 rintro e wd22 ⟨Aa16, cc17, Aa18, cc19, Aa20, cc21, rfl, hw23⟩
 refine ⟨_, rfl, ?_⟩
 replace hw := hw.call hw23
 clear hs; intro a hs; replace hs := hs.rms [25, 27]
 obtain ⟨g27, wd28, hx29, hw⟩ := x_allocc (P := Tryd.prog) (elem := 26) (ty := 0) (z := .agg #[.slice none 0 0, .slice none 0 0, .slice none 0 0]) (cs := [.slice none 0 0, .slice none 0 0, .slice none 0 0]) hs hw (by kernel_rfl) (by kernel_rfl)
 refine go_run hs (by rfl) hx29 [] ?_; clear hs; intro a hs
 replace hw := St.own_nil hw 37 (eI .u32)
 replace hw := St.own_nil hw 3 (eI .i64)
 replace hw := St.own_nil hw 39 eSapi_Sym
 replace hw : St [] w0 wd28 [own 39 eSapi_Sym none 0 ([] : List Sapi_Sym), own 3 (eI .i64) none 0 ([] : List Int), own 37 (eI .u32) none 0 ([] : List Int), box g27 26 [.slice none ([] : List Int).length 0, .slice none ([] : List Int).length 0, .slice none ([] : List Sapi_Sym).length 0], own 37 (eI .u32) Aa16 cc17 t14.Words, own 3 (eI .i64) Aa18 cc19 t14.Sites, own 39 eSapi_Sym Aa20 cc21 t14.Syms, box g2 48 [.slice A0_1 a0.Words.length c0_1, .slice A0_2 a0.Bits.length c0_2, .slice A0_3 a0.Names.length c0_3]] := hw
 replace hw := hw.up 3
 obtain ⟨wd34, hx35, hw⟩ := x_bput (P := Tryd.prog) (ty := 0) (t := 26) (y := (Operand.tmp 6)) (z := (Operand.tmp 28)) (o := 0) (p := (⟨g27, 0, none⟩ : Addr)) (v := .agg #[.slice Aa16 t14.Words.length cc17, .slice Aa18 t14.Sites.length cc19, .slice Aa20 t14.Syms.length cc21]) (vs := [.slice Aa16 t14.Words.length cc17, .slice Aa18 t14.Sites.length cc19, .slice Aa20 t14.Syms.length cc21]) (cs' := [.slice Aa16 t14.Words.length cc17, .slice Aa18 t14.Sites.length cc19, .slice Aa20 t14.Syms.length cc21]) hs hw (by kernel_rfl) rfl (by kernel_rfl) rfl (by kernel_rfl) (by kernel_rfl) (by simp [Value.oneCell']) rfl
 refine go_unit hs (by rfl) hx35 [28] ?_; clear hs; intro a hs
 refine go_end (hK12 _ _ ?_)
 refine go_sk fun K36 hK36 => ?_
 refine go_run hs (by rfl) (x_blds (g := g27) (o := 0) (p := (⟨g27, 0, none⟩ : Addr)) (vs := [.slice Aa16 t14.Words.length cc17, .slice Aa18 t14.Sites.length cc19, .slice Aa20 t14.Syms.length cc21]) (hw.up 0)) [] ?_; clear hs; intro a hs
 obtain ⟨⟨t38, t39⟩, hx40, H⟩ := bind_some H
 refine go_call hs (by rfl) (file_Put.calls t14 Aa16 cc17 Aa18 cc19 Aa20 cc21 (t38, t39) _ (Rd.of_own (hw.up 4)) (Rd.of_own (hw.up 5)) (Rd.of_own (hw.up 6)) hx40) ?_
 rintro e wd43 ⟨Aa41, cc42, rfl, hw44⟩
 refine ⟨_, rfl, ?_⟩
 replace hw := hw.call hw44
 clear hs; intro a hs; replace hs := hs.rms [30]
 refine go_pvs 7 [31] [(7, .slice Aa41 t38.length cc42), (8, .int .i64 t39)] hs ?_; clear hs; intro a hs
 refine go_end (hK36 _ _ ?_)
 refine go_seq_k fun K46 hK46 => ?_
 have hJ2 : ∀ (a : Act) (w : World), Slots a 143 [(1, .int .u16 a1), (6, .pointer (some (⟨g27, 0, none⟩ : Addr))), (7, .slice Aa41 t38.length cc42)] → St [] w0 w [own 5 (eI .u8) Aa41 cc42 t38, box g27 26 [.slice Aa16 t14.Words.length cc17, .slice Aa18 t14.Sites.length cc19, .slice Aa20 t14.Syms.length cc21], own 39 eSapi_Sym none 0 ([] : List Sapi_Sym), own 3 (eI .i64) none 0 ([] : List Int), own 37 (eI .u32) none 0 ([] : List Int), own 37 (eI .u32) Aa16 cc17 t14.Words, own 3 (eI .i64) Aa18 cc19 t14.Sites, own 39 eSapi_Sym Aa20 cc21 t14.Syms, box g2 48 [.slice A0_1 a0.Words.length c0_1, .slice A0_2 a0.Bits.length c0_2, .slice A0_3 a0.Names.length c0_3]] → rivetlaw10_FileNames.j2 t38 a1 t14 = some r → K46 a w := by
  intro a w hs hw H
  unfold rivetlaw10_FileNames.j2 at H
  refine hK46 _ _ ?_
  refine go_sk fun K54 hK54 => ?_
  refine go_pvs 1 [] [(45, .slice Aa41 t38.length cc42)] hs ?_; clear hs; intro a hs
  obtain ⟨hp55, H⟩ := ite_only H
  obtain ⟨ad56, rfl⟩ := (Rd.of_own (hw.up 0)).some hp55.1 hp55.2
  refine go_run hs (by rfl) (x_idx (T := 5) (sz := 1) (a := ad56) (n := t38.length) (cap := cc42) (k := .i64) (i := (12 : Int)) hp55) [45] ?_; clear hs; intro a hs
  obtain ⟨wd57, hx58, hw⟩ := x_put (P := Tryd.prog) (ty := 0) (t := 5) (x := (Operand.tmp 46)) (y := (Operand.const (Value.int IntKind.u8 2))) (off := 0) (p := ad56.add (((12 : Int) : Int).toNat * 1)) (v := .int .u8 2) (vs := [.int .u8 2]) (i := (12 : Int)) (e' := (2 : Int)) hs hw rfl hp55.1 hp55.2 (by kernel_rfl) rfl (by kernel_rfl) rfl (by kernel_rfl) (Nat.le_of_ble_eq_true rfl) (by simp [Value.oneCell']) (by kernel_rfl)
  refine go_unit hs (by rfl) hx58 [46] ?_; clear hs; intro a hs
  replace hs : Slots a 143 [(1, .int .u16 a1), (6, .pointer (some (⟨g27, 0, none⟩ : Addr))), (7, .slice (some ad56) (t38.set ((12 : Int) : Int).toNat 2).length cc42)] := by rw [show (t38.set ((12 : Int) : Int).toNat 2).length = (t38).length from List.length_set]; exact hs.kx
  refine go_end (hK54 _ _ ?_)
  refine go_sk fun K59 hK59 => ?_
  obtain ⟨⟨t61, t62⟩, hx63, H⟩ := bind_some H
  refine go_call hs (by rfl) (le_PutName.calls (⟨#[120]⟩ : ByteArray) (t61, t62) _ hx63) ?_
  rintro e wd66 ⟨Aa64, cc65, rfl, hw67⟩
  refine ⟨_, rfl, ?_⟩
  replace hw := hw.call hw67
  clear hs; intro a hs
  refine go_pvs 6 [48] [(9, .slice Aa64 t61.length cc65)] hs ?_; clear hs; intro a hs
  refine go_end (hK59 _ _ ?_)
  refine go_sk fun K69 hK69 => ?_
  obtain ⟨⟨t71, t72⟩, hx73, H⟩ := bind_some H
  refine go_call hs (by rfl) (le_PutName.calls (⟨#[121]⟩ : ByteArray) (t71, t72) _ hx73) ?_
  rintro e wd76 ⟨Aa74, cc75, rfl, hw77⟩
  refine ⟨_, rfl, ?_⟩
  replace hw := hw.call hw77
  clear hs; intro a hs
  refine go_pvs 6 [52] [(11, .slice Aa74 t71.length cc75)] hs ?_; clear hs; intro a hs
  refine go_end (hK69 _ _ ?_)
  refine go_sk fun K79 hK79 => ?_
  refine go_pvs 2 [] [(56, .int .u32 (wu32 a1))] hs ?_; clear hs; intro a hs
  obtain ⟨Aa80, cc81, wd82, hx83, hw⟩ := n_lit (P := Tryd.prog) (t := 22) (ty := 22) (T := 37) (len := 1) (parts := #[(0, (Operand.tmp 56))]) (z := .int .u32 0) (bytes := 4) (cells := #[.int .u32 (wu32 a1)]) hs hw (eI .u32) ([wu32 a1] : List Int) (by kernel_rfl) (by kernel_rfl) (by kernel_rfl) (by kernel_rfl) (by kernel_rfl) (by kernel_rfl) (by kernel_rfl)
  refine go_run hs (by rfl) hx83 [56] ?_; clear hs; intro a hs
  obtain ⟨t86, hx87, H⟩ := bind_some H
  refine go_call hs (by rfl) (le_Put.calls Aa80 cc81 ([wu32 a1] : List Int) t86 _ (Rd.of_own (hw.up 0)) hx87) ?_
  rintro e wd90 ⟨Aa88, cc89, rfl, hw91⟩
  refine ⟨_, rfl, ?_⟩
  replace hw := hw.call hw91
  clear hs; intro a hs; replace hs := hs.rms [57]
  refine go_pvs 5 [58] [(13, .slice Aa88 t86.length cc89)] hs ?_; clear hs; intro a hs
  refine go_end (hK79 _ _ ?_)
  refine go_sk fun K93 hK93 => ?_
  obtain ⟨Aa94, cc95, wd96, hx97, hw⟩ := n_lit0 (P := Tryd.prog) (t := 32) (ty := 32) (T := 5) hs hw (eI .u8) (by kernel_rfl) (by kernel_rfl)
  refine go_run hs (by rfl) hx97 [] ?_; clear hs; intro a hs
  refine go_pvs 2 [] [(60, .slice (some ad56) (t38.set ((12 : Int) : Int).toNat 2).length cc42)] hs ?_; clear hs; intro a hs
  obtain ⟨hp99, H⟩ := ite_only H
  have hsrc104 : Src Tryd.prog (eI .u8).sz 32 (.slice (some ad56) (t38.set ((12 : Int) : Int).toNat 2).length cc42) (t38.set ((12 : Int) : Int).toNat 2).length ((t38.set ((12 : Int) : Int).toNat 2).flatMap (eI .u8).enc) _ := (Src.of_rd (E := (eI .u8)) (e' := 5) (by kernel_rfl) (Rd.of_own (hw.up 5)))
  obtain ⟨Aa100, cc101, wd102, hx103, hw⟩ := x_append (P := Tryd.prog) (t := 32) (tx := 32) (ty := 32) (x := (Operand.tmp 59)) (y := (Operand.tmp 60)) (z := .int .u8 0) (bytes := 1) (l2 := t38.set ((12 : Int) : Int).toNat 2) hs hw (by kernel_rfl) (by kernel_rfl) (by kernel_rfl) (by kernel_rfl) (by kernel_rfl) hsrc104 (by omega) (by omega)
  refine go_run hs (by rfl) hx103 [59, 60] ?_; clear hs; intro a hs
  refine go_pvs 4 [] [(62, .slice Aa64 t61.length cc65)] hs ?_; clear hs; intro a hs
  obtain ⟨hp105, H⟩ := ite_only H
  have hsrc110 : Src Tryd.prog (eI .u8).sz 32 (.slice Aa64 t61.length cc65) t61.length (t61.flatMap (eI .u8).enc) _ := (Src.of_rd (E := (eI .u8)) (e' := 5) (by kernel_rfl) (Rd.of_own (hw.up 4)))
  obtain ⟨Aa106, cc107, wd108, hx109, hw⟩ := x_append (P := Tryd.prog) (t := 32) (tx := 32) (ty := 32) (x := (Operand.tmp 61)) (y := (Operand.tmp 62)) (z := .int .u8 0) (bytes := 1) (l2 := t61) hs hw (by kernel_rfl) (by kernel_rfl) (by kernel_rfl) (by kernel_rfl) (by kernel_rfl) hsrc110 (by omega) (by omega)
  refine go_run hs (by rfl) hx109 [61, 62] ?_; clear hs; intro a hs
  refine go_pvs 6 [63] [(14, .slice Aa106 ((([] : List Int) ++ (t38.set ((12 : Int) : Int).toNat 2)) ++ t61).length cc107)] hs ?_; clear hs; intro a hs
  refine go_end (hK93 _ _ ?_)
  refine go_sk fun K111 hK111 => ?_
  refine go_pvs 2 [14] [(64, .slice Aa106 ((([] : List Int) ++ (t38.set ((12 : Int) : Int).toNat 2)) ++ t61).length cc107), (65, .slice Aa88 t86.length cc89)] hs ?_; clear hs; intro a hs
  obtain ⟨hp112, H⟩ := ite_only H
  have hsrc117 : Src Tryd.prog (eI .u8).sz 32 (.slice Aa88 t86.length cc89) t86.length (t86.flatMap (eI .u8).enc) _ := (Src.of_rd (E := (eI .u8)) (e' := 5) (by kernel_rfl) (Rd.of_own (hw.up 1)))
  obtain ⟨Aa113, cc114, wd115, hx116, hw⟩ := x_append (P := Tryd.prog) (t := 32) (tx := 32) (ty := 32) (x := (Operand.tmp 64)) (y := (Operand.tmp 65)) (z := .int .u8 0) (bytes := 1) (l2 := t86) hs hw (by kernel_rfl) (by kernel_rfl) (by kernel_rfl) (by kernel_rfl) (by kernel_rfl) hsrc117 (by omega) (by omega)
  refine go_run hs (by rfl) hx116 [64, 65] ?_; clear hs; intro a hs
  refine go_pvs 4 [] [(67, .slice Aa74 t71.length cc75)] hs ?_; clear hs; intro a hs
  obtain ⟨hp118, H⟩ := ite_only H
  have hsrc123 : Src Tryd.prog (eI .u8).sz 32 (.slice Aa74 t71.length cc75) t71.length (t71.flatMap (eI .u8).enc) _ := (Src.of_rd (E := (eI .u8)) (e' := 5) (by kernel_rfl) (Rd.of_own (hw.up 3)))
  obtain ⟨Aa119, cc120, wd121, hx122, hw⟩ := x_append (P := Tryd.prog) (t := 32) (tx := 32) (ty := 32) (x := (Operand.tmp 66)) (y := (Operand.tmp 67)) (z := .int .u8 0) (bytes := 1) (l2 := t71) hs hw (by kernel_rfl) (by kernel_rfl) (by kernel_rfl) (by kernel_rfl) (by kernel_rfl) hsrc123 (by omega) (by omega)
  refine go_run hs (by rfl) hx122 [66, 67] ?_; clear hs; intro a hs
  refine go_pvs 6 [] [(69, .slice Aa88 t86.length cc89)] hs ?_; clear hs; intro a hs
  obtain ⟨hp124, H⟩ := ite_only H
  have hsrc129 : Src Tryd.prog (eI .u8).sz 32 (.slice Aa88 t86.length cc89) t86.length (t86.flatMap (eI .u8).enc) _ := (Src.of_rd (E := (eI .u8)) (e' := 5) (by kernel_rfl) (Rd.of_own (hw.up 1)))
  obtain ⟨Aa125, cc126, wd127, hx128, hw⟩ := x_append (P := Tryd.prog) (t := 32) (tx := 32) (ty := 32) (x := (Operand.tmp 68)) (y := (Operand.tmp 69)) (z := .int .u8 0) (bytes := 1) (l2 := t86) hs hw (by kernel_rfl) (by kernel_rfl) (by kernel_rfl) (by kernel_rfl) (by kernel_rfl) hsrc129 (by omega) (by omega)
  refine go_run hs (by rfl) hx128 [68, 69] ?_; clear hs; intro a hs
  refine go_pvs 8 [70] [(14, .slice Aa125 (((((([] : List Int) ++ (t38.set ((12 : Int) : Int).toNat 2)) ++ t61) ++ t86) ++ t71) ++ t86).length cc126)] hs ?_; clear hs; intro a hs
  refine go_end (hK111 _ _ ?_)
  refine go_sk fun K130 hK130 => ?_
  obtain ⟨Aa131, cc132, wd133, hx134, hw⟩ := n_lit0 (P := Tryd.prog) (t := 32) (ty := 32) (T := 5) hs hw (eI .u8) (by kernel_rfl) (by kernel_rfl)
  refine go_run hs (by rfl) hx134 [] ?_; clear hs; intro a hs
  refine go_pvs 2 [7] [(72, .slice (some ad56) (t38.set ((12 : Int) : Int).toNat 2).length cc42)] hs ?_; clear hs; intro a hs
  obtain ⟨hp136, H⟩ := ite_only H
  have hsrc141 : Src Tryd.prog (eI .u8).sz 32 (.slice (some ad56) (t38.set ((12 : Int) : Int).toNat 2).length cc42) (t38.set ((12 : Int) : Int).toNat 2).length ((t38.set ((12 : Int) : Int).toNat 2).flatMap (eI .u8).enc) _ := (Src.of_rd (E := (eI .u8)) (e' := 5) (by kernel_rfl) (Rd.of_own (hw.up 6)))
  obtain ⟨Aa137, cc138, wd139, hx140, hw⟩ := x_append (P := Tryd.prog) (t := 32) (tx := 32) (ty := 32) (x := (Operand.tmp 71)) (y := (Operand.tmp 72)) (z := .int .u8 0) (bytes := 1) (l2 := t38.set ((12 : Int) : Int).toNat 2) hs hw (by kernel_rfl) (by kernel_rfl) (by kernel_rfl) (by kernel_rfl) (by kernel_rfl) hsrc141 (by omega) (by omega)
  refine go_run hs (by rfl) hx140 [71, 72] ?_; clear hs; intro a hs
  refine go_pvs 4 [11] [(74, .slice Aa74 t71.length cc75)] hs ?_; clear hs; intro a hs
  replace hs : Slots a 143 [(1, .int .u16 a1), (6, .pointer (some (⟨g27, 0, none⟩ : Addr))), (9, .slice Aa64 t61.length cc65), (13, .slice Aa88 t86.length cc89), (14, .slice Aa125 (((((([] : List Int) ++ (t38.set ((12 : Int) : Int).toNat 2)) ++ t61) ++ t86) ++ t71) ++ t86).length cc126), (73, .slice Aa137 (([] : List Int) ++ (t38.set ((12 : Int) : Int).toNat 2)).length cc138), (74, .slice Aa74 t71.length cc75)] := hs.kx
  obtain ⟨hp142, H⟩ := ite_only H
  have hsrc147 : Src Tryd.prog (eI .u8).sz 32 (.slice Aa74 t71.length cc75) t71.length (t71.flatMap (eI .u8).enc) _ := (Src.of_rd (E := (eI .u8)) (e' := 5) (by kernel_rfl) (Rd.of_own (hw.up 4)))
  obtain ⟨Aa143, cc144, wd145, hx146, hw⟩ := x_append (P := Tryd.prog) (t := 32) (tx := 32) (ty := 32) (x := (Operand.tmp 73)) (y := (Operand.tmp 74)) (z := .int .u8 0) (bytes := 1) (l2 := t71) hs hw (by kernel_rfl) (by kernel_rfl) (by kernel_rfl) (by kernel_rfl) (by kernel_rfl) hsrc147 (by omega) (by omega)
  refine go_run hs (by rfl) hx146 [73, 74] ?_; clear hs; intro a hs
  refine go_pvs 6 [75] [(15, .slice Aa143 ((([] : List Int) ++ (t38.set ((12 : Int) : Int).toNat 2)) ++ t71).length cc144)] hs ?_; clear hs; intro a hs
  refine go_end (hK130 _ _ ?_)
  refine go_sk fun K148 hK148 => ?_
  refine go_pvs 2 [15] [(76, .slice Aa143 ((([] : List Int) ++ (t38.set ((12 : Int) : Int).toNat 2)) ++ t71).length cc144), (77, .slice Aa88 t86.length cc89)] hs ?_; clear hs; intro a hs
  obtain ⟨hp149, H⟩ := ite_only H
  have hsrc154 : Src Tryd.prog (eI .u8).sz 32 (.slice Aa88 t86.length cc89) t86.length (t86.flatMap (eI .u8).enc) _ := (Src.of_rd (E := (eI .u8)) (e' := 5) (by kernel_rfl) (Rd.of_own (hw.up 2)))
  obtain ⟨Aa150, cc151, wd152, hx153, hw⟩ := x_append (P := Tryd.prog) (t := 32) (tx := 32) (ty := 32) (x := (Operand.tmp 76)) (y := (Operand.tmp 77)) (z := .int .u8 0) (bytes := 1) (l2 := t86) hs hw (by kernel_rfl) (by kernel_rfl) (by kernel_rfl) (by kernel_rfl) (by kernel_rfl) hsrc154 (by omega) (by omega)
  refine go_run hs (by rfl) hx153 [76, 77] ?_; clear hs; intro a hs
  refine go_pvs 4 [9] [(79, .slice Aa64 t61.length cc65)] hs ?_; clear hs; intro a hs
  obtain ⟨hp155, H⟩ := ite_only H
  have hsrc160 : Src Tryd.prog (eI .u8).sz 32 (.slice Aa64 t61.length cc65) t61.length (t61.flatMap (eI .u8).enc) _ := (Src.of_rd (E := (eI .u8)) (e' := 5) (by kernel_rfl) (Rd.of_own (hw.up 5)))
  obtain ⟨Aa156, cc157, wd158, hx159, hw⟩ := x_append (P := Tryd.prog) (t := 32) (tx := 32) (ty := 32) (x := (Operand.tmp 78)) (y := (Operand.tmp 79)) (z := .int .u8 0) (bytes := 1) (l2 := t61) hs hw (by kernel_rfl) (by kernel_rfl) (by kernel_rfl) (by kernel_rfl) (by kernel_rfl) hsrc160 (by omega) (by omega)
  refine go_run hs (by rfl) hx159 [78, 79] ?_; clear hs; intro a hs
  refine go_pvs 6 [13] [(81, .slice Aa88 t86.length cc89)] hs ?_; clear hs; intro a hs
  obtain ⟨hp161, H⟩ := ite_only H
  have hsrc166 : Src Tryd.prog (eI .u8).sz 32 (.slice Aa88 t86.length cc89) t86.length (t86.flatMap (eI .u8).enc) _ := (Src.of_rd (E := (eI .u8)) (e' := 5) (by kernel_rfl) (Rd.of_own (hw.up 2)))
  obtain ⟨Aa162, cc163, wd164, hx165, hw⟩ := x_append (P := Tryd.prog) (t := 32) (tx := 32) (ty := 32) (x := (Operand.tmp 80)) (y := (Operand.tmp 81)) (z := .int .u8 0) (bytes := 1) (l2 := t86) hs hw (by kernel_rfl) (by kernel_rfl) (by kernel_rfl) (by kernel_rfl) (by kernel_rfl) hsrc166 (by omega) (by omega)
  refine go_run hs (by rfl) hx165 [80, 81] ?_; clear hs; intro a hs
  refine go_pvs 8 [82] [(15, .slice Aa162 (((((([] : List Int) ++ (t38.set ((12 : Int) : Int).toNat 2)) ++ t71) ++ t86) ++ t61) ++ t86).length cc163)] hs ?_; clear hs; intro a hs
  refine go_end (hK148 _ _ ?_)
  refine go_sk fun K167 hK167 => ?_
  refine go_pvs 1 [] [(84, .slice Aa125 (((((([] : List Int) ++ (t38.set ((12 : Int) : Int).toNat 2)) ++ t61) ++ t86) ++ t71) ++ t86).length cc126)] hs ?_; clear hs; intro a hs
  obtain ⟨⟨t169, t170⟩, hx171, H⟩ := bind_some H
  refine go_call hs (by rfl) (file_Take.calls Aa125 cc126 (((((([] : List Int) ++ (t38.set ((12 : Int) : Int).toNat 2)) ++ t61) ++ t86) ++ t71) ++ t86) (t169, t170) _ (Rd.of_own (hw.up 1)) hx171) ?_
  rintro e wd178 ⟨Aa172, cc173, Aa174, cc175, Aa176, cc177, rfl, hw179⟩
  refine ⟨_, rfl, ?_⟩
  replace hw := hw.call hw179
  clear hs; intro a hs; replace hs := hs.rms [84]
  refine go_pvs 5 [85] [(86, .agg #[.slice Aa172 t169.Words.length cc173, .slice Aa174 t169.Sites.length cc175, .slice Aa176 t169.Syms.length cc177]), (87, .int .i64 t170)] hs ?_; clear hs; intro a hs
  obtain ⟨g183, wd184, hx185, hw⟩ := x_allocc (P := Tryd.prog) (elem := 26) (ty := 0) (z := .agg #[.slice none 0 0, .slice none 0 0, .slice none 0 0]) (cs := [.slice none 0 0, .slice none 0 0, .slice none 0 0]) hs hw (by kernel_rfl) (by kernel_rfl)
  refine go_run hs (by rfl) hx185 [] ?_; clear hs; intro a hs
  replace hw := St.own_nil hw 37 (eI .u32)
  replace hw := St.own_nil hw 3 (eI .i64)
  replace hw := St.own_nil hw 39 eSapi_Sym
  replace hw : St [] w0 wd184 [own 39 eSapi_Sym none 0 ([] : List Sapi_Sym), own 3 (eI .i64) none 0 ([] : List Int), own 37 (eI .u32) none 0 ([] : List Int), box g183 26 [.slice none ([] : List Int).length 0, .slice none ([] : List Int).length 0, .slice none ([] : List Sapi_Sym).length 0], own 37 (eI .u32) Aa172 cc173 t169.Words, own 3 (eI .i64) Aa174 cc175 t169.Sites, own 39 eSapi_Sym Aa176 cc177 t169.Syms, own 5 (eI .u8) Aa162 cc163 (((((([] : List Int) ++ (t38.set ((12 : Int) : Int).toNat 2)) ++ t71) ++ t86) ++ t61) ++ t86), own 5 (eI .u8) Aa125 cc126 (((((([] : List Int) ++ (t38.set ((12 : Int) : Int).toNat 2)) ++ t61) ++ t86) ++ t71) ++ t86), own 5 (eI .u8) Aa88 cc89 t86, own 37 (eI .u32) Aa80 cc81 ([wu32 a1] : List Int), own 5 (eI .u8) Aa74 cc75 t71, own 5 (eI .u8) Aa64 cc65 t61, own 5 (eI .u8) (some ad56) cc42 (t38.set ((12 : Int) : Int).toNat 2), box g27 26 [.slice Aa16 t14.Words.length cc17, .slice Aa18 t14.Sites.length cc19, .slice Aa20 t14.Syms.length cc21], own 39 eSapi_Sym none 0 ([] : List Sapi_Sym), own 3 (eI .i64) none 0 ([] : List Int), own 37 (eI .u32) none 0 ([] : List Int), own 37 (eI .u32) Aa16 cc17 t14.Words, own 3 (eI .i64) Aa18 cc19 t14.Sites, own 39 eSapi_Sym Aa20 cc21 t14.Syms, box g2 48 [.slice A0_1 a0.Words.length c0_1, .slice A0_2 a0.Bits.length c0_2, .slice A0_3 a0.Names.length c0_3]] := hw
  replace hw := hw.up 3
  obtain ⟨wd190, hx191, hw⟩ := x_bput (P := Tryd.prog) (ty := 0) (t := 26) (y := (Operand.tmp 16)) (z := (Operand.tmp 86)) (o := 0) (p := (⟨g183, 0, none⟩ : Addr)) (v := .agg #[.slice Aa172 t169.Words.length cc173, .slice Aa174 t169.Sites.length cc175, .slice Aa176 t169.Syms.length cc177]) (vs := [.slice Aa172 t169.Words.length cc173, .slice Aa174 t169.Sites.length cc175, .slice Aa176 t169.Syms.length cc177]) (cs' := [.slice Aa172 t169.Words.length cc173, .slice Aa174 t169.Sites.length cc175, .slice Aa176 t169.Syms.length cc177]) hs hw (by kernel_rfl) rfl (by kernel_rfl) rfl (by kernel_rfl) (by kernel_rfl) (by simp [Value.oneCell']) rfl
  refine go_unit hs (by rfl) hx191 [86] ?_; clear hs; intro a hs
  refine go_pvs 8 [87] [(17, .int .i64 t170)] hs ?_; clear hs; intro a hs
  refine go_end (hK167 _ _ ?_)
  refine go_sk fun K192 hK192 => ?_
  refine go_pvs 1 [15] [(89, .slice Aa162 (((((([] : List Int) ++ (t38.set ((12 : Int) : Int).toNat 2)) ++ t71) ++ t86) ++ t61) ++ t86).length cc163)] hs ?_; clear hs; intro a hs
  obtain ⟨⟨t194, t195⟩, hx196, H⟩ := bind_some H
  refine go_call hs (by rfl) (file_Take.calls Aa162 cc163 (((((([] : List Int) ++ (t38.set ((12 : Int) : Int).toNat 2)) ++ t71) ++ t86) ++ t61) ++ t86) (t194, t195) _ (Rd.of_own (hw.up 7)) hx196) ?_
  rintro e wd203 ⟨Aa197, cc198, Aa199, cc200, Aa201, cc202, rfl, hw204⟩
  refine ⟨_, rfl, ?_⟩
  replace hw := hw.call hw204
  clear hs; intro a hs; replace hs := hs.rms [89]
  refine go_pvs 5 [90] [(91, .agg #[.slice Aa197 t194.Words.length cc198, .slice Aa199 t194.Sites.length cc200, .slice Aa201 t194.Syms.length cc202]), (92, .int .i64 t195)] hs ?_; clear hs; intro a hs
  obtain ⟨g208, wd209, hx210, hw⟩ := x_allocc (P := Tryd.prog) (elem := 26) (ty := 0) (z := .agg #[.slice none 0 0, .slice none 0 0, .slice none 0 0]) (cs := [.slice none 0 0, .slice none 0 0, .slice none 0 0]) hs hw (by kernel_rfl) (by kernel_rfl)
  refine go_run hs (by rfl) hx210 [] ?_; clear hs; intro a hs
  replace hw := St.own_nil hw 37 (eI .u32)
  replace hw := St.own_nil hw 3 (eI .i64)
  replace hw := St.own_nil hw 39 eSapi_Sym
  replace hw : St [] w0 wd209 [own 39 eSapi_Sym none 0 ([] : List Sapi_Sym), own 3 (eI .i64) none 0 ([] : List Int), own 37 (eI .u32) none 0 ([] : List Int), box g208 26 [.slice none ([] : List Int).length 0, .slice none ([] : List Int).length 0, .slice none ([] : List Sapi_Sym).length 0], own 37 (eI .u32) Aa197 cc198 t194.Words, own 3 (eI .i64) Aa199 cc200 t194.Sites, own 39 eSapi_Sym Aa201 cc202 t194.Syms, box g183 26 [.slice Aa172 t169.Words.length cc173, .slice Aa174 t169.Sites.length cc175, .slice Aa176 t169.Syms.length cc177], own 39 eSapi_Sym none 0 ([] : List Sapi_Sym), own 3 (eI .i64) none 0 ([] : List Int), own 37 (eI .u32) none 0 ([] : List Int), own 37 (eI .u32) Aa172 cc173 t169.Words, own 3 (eI .i64) Aa174 cc175 t169.Sites, own 39 eSapi_Sym Aa176 cc177 t169.Syms, own 5 (eI .u8) Aa162 cc163 (((((([] : List Int) ++ (t38.set ((12 : Int) : Int).toNat 2)) ++ t71) ++ t86) ++ t61) ++ t86), own 5 (eI .u8) Aa125 cc126 (((((([] : List Int) ++ (t38.set ((12 : Int) : Int).toNat 2)) ++ t61) ++ t86) ++ t71) ++ t86), own 5 (eI .u8) Aa88 cc89 t86, own 37 (eI .u32) Aa80 cc81 ([wu32 a1] : List Int), own 5 (eI .u8) Aa74 cc75 t71, own 5 (eI .u8) Aa64 cc65 t61, own 5 (eI .u8) (some ad56) cc42 (t38.set ((12 : Int) : Int).toNat 2), box g27 26 [.slice Aa16 t14.Words.length cc17, .slice Aa18 t14.Sites.length cc19, .slice Aa20 t14.Syms.length cc21], own 39 eSapi_Sym none 0 ([] : List Sapi_Sym), own 3 (eI .i64) none 0 ([] : List Int), own 37 (eI .u32) none 0 ([] : List Int), own 37 (eI .u32) Aa16 cc17 t14.Words, own 3 (eI .i64) Aa18 cc19 t14.Sites, own 39 eSapi_Sym Aa20 cc21 t14.Syms, box g2 48 [.slice A0_1 a0.Words.length c0_1, .slice A0_2 a0.Bits.length c0_2, .slice A0_3 a0.Names.length c0_3]] := hw
  replace hw := hw.up 3
  obtain ⟨wd215, hx216, hw⟩ := x_bput (P := Tryd.prog) (ty := 0) (t := 26) (y := (Operand.tmp 18)) (z := (Operand.tmp 91)) (o := 0) (p := (⟨g208, 0, none⟩ : Addr)) (v := .agg #[.slice Aa197 t194.Words.length cc198, .slice Aa199 t194.Sites.length cc200, .slice Aa201 t194.Syms.length cc202]) (vs := [.slice Aa197 t194.Words.length cc198, .slice Aa199 t194.Sites.length cc200, .slice Aa201 t194.Syms.length cc202]) (cs' := [.slice Aa197 t194.Words.length cc198, .slice Aa199 t194.Sites.length cc200, .slice Aa201 t194.Syms.length cc202]) hs hw (by kernel_rfl) rfl (by kernel_rfl) rfl (by kernel_rfl) (by kernel_rfl) (by simp [Value.oneCell']) rfl
  refine go_unit hs (by rfl) hx216 [18, 91] ?_; clear hs; intro a hs
  refine go_pvs 8 [92] [(19, .int .i64 t195)] hs ?_; clear hs; intro a hs
  refine go_end (hK192 _ _ ?_)
  refine go_sk fun K217 hK217 => ?_
  refine go_pvs 4 [14] [(94, .slice Aa125 (((((([] : List Int) ++ (t38.set ((12 : Int) : Int).toNat 2)) ++ t61) ++ t86) ++ t71) ++ t86).length cc126), (97, .int .i64 (w64 (((((((([] : List Int) ++ (t38.set ((12 : Int) : Int).toNat 2)) ++ t61) ++ t86) ++ t71) ++ t86).length : Int) - 1)))] hs ?_; clear hs; intro a hs
  obtain ⟨hp218, H⟩ := ite_only H
  obtain ⟨Aa219, cc220, hx221, hc222⟩ := c_hi (P := Tryd.prog) (ty := 32) (E := (eI .u8)) (T := 5) (t := 32) (x := (Operand.tmp 94)) (y := (Operand.tmp 97)) (k := .i64) hs (by kernel_rfl) (by kernel_rfl) (Rd.of_own (hw.up 15)) (by kernel_rfl) (by kernel_rfl) hp218.1 hp218.2
  refine go_run hs (by rfl) hx221 [94, 97] ?_; clear hs; intro a hs
  obtain ⟨⟨t225, t226⟩, hx227, H⟩ := bind_some H
  refine go_call hs (by rfl) (file_Take.calls Aa219 cc220 ((((((([] : List Int) ++ (t38.set ((12 : Int) : Int).toNat 2)) ++ t61) ++ t86) ++ t71) ++ t86).take (w64 (((((((([] : List Int) ++ (t38.set ((12 : Int) : Int).toNat 2)) ++ t61) ++ t86) ++ t71) ++ t86).length : Int) - 1) : Int).toNat) (t225, t226) _ (hc222 _ (Rd.of_own (hw.up 15))) hx227) ?_
  rintro e wd234 ⟨Aa228, cc229, Aa230, cc231, Aa232, cc233, rfl, hw235⟩
  refine ⟨_, rfl, ?_⟩
  replace hw := hw.call hw235
  clear hs; intro a hs; replace hs := hs.rms [98]
  refine go_pvs 9 [99] [(100, .agg #[.slice Aa228 t225.Words.length cc229, .slice Aa230 t225.Sites.length cc231, .slice Aa232 t225.Syms.length cc233]), (101, .int .i64 t226)] hs ?_; clear hs; intro a hs
  replace hs : Slots a 143 [(1, .int .u16 a1), (6, .pointer (some (⟨g27, 0, none⟩ : Addr))), (16, .pointer (some (⟨g183, 0, none⟩ : Addr))), (17, .int .i64 t170), (19, .int .i64 t195), (100, .agg #[.slice Aa228 t225.Words.length cc229, .slice Aa230 t225.Sites.length cc231, .slice Aa232 t225.Syms.length cc233]), (101, .int .i64 t226)] := hs.kx
  obtain ⟨g239, wd240, hx241, hw⟩ := x_allocc (P := Tryd.prog) (elem := 26) (ty := 0) (z := .agg #[.slice none 0 0, .slice none 0 0, .slice none 0 0]) (cs := [.slice none 0 0, .slice none 0 0, .slice none 0 0]) hs hw (by kernel_rfl) (by kernel_rfl)
  refine go_run hs (by rfl) hx241 [] ?_; clear hs; intro a hs
  replace hw := St.own_nil hw 37 (eI .u32)
  replace hw := St.own_nil hw 3 (eI .i64)
  replace hw := St.own_nil hw 39 eSapi_Sym
  replace hw : St [] w0 wd240 [own 39 eSapi_Sym none 0 ([] : List Sapi_Sym), own 3 (eI .i64) none 0 ([] : List Int), own 37 (eI .u32) none 0 ([] : List Int), box g239 26 [.slice none ([] : List Int).length 0, .slice none ([] : List Int).length 0, .slice none ([] : List Sapi_Sym).length 0], own 37 (eI .u32) Aa228 cc229 t225.Words, own 3 (eI .i64) Aa230 cc231 t225.Sites, own 39 eSapi_Sym Aa232 cc233 t225.Syms, box g208 26 [.slice Aa197 t194.Words.length cc198, .slice Aa199 t194.Sites.length cc200, .slice Aa201 t194.Syms.length cc202], own 39 eSapi_Sym none 0 ([] : List Sapi_Sym), own 3 (eI .i64) none 0 ([] : List Int), own 37 (eI .u32) none 0 ([] : List Int), own 37 (eI .u32) Aa197 cc198 t194.Words, own 3 (eI .i64) Aa199 cc200 t194.Sites, own 39 eSapi_Sym Aa201 cc202 t194.Syms, box g183 26 [.slice Aa172 t169.Words.length cc173, .slice Aa174 t169.Sites.length cc175, .slice Aa176 t169.Syms.length cc177], own 39 eSapi_Sym none 0 ([] : List Sapi_Sym), own 3 (eI .i64) none 0 ([] : List Int), own 37 (eI .u32) none 0 ([] : List Int), own 37 (eI .u32) Aa172 cc173 t169.Words, own 3 (eI .i64) Aa174 cc175 t169.Sites, own 39 eSapi_Sym Aa176 cc177 t169.Syms, own 5 (eI .u8) Aa162 cc163 (((((([] : List Int) ++ (t38.set ((12 : Int) : Int).toNat 2)) ++ t71) ++ t86) ++ t61) ++ t86), own 5 (eI .u8) Aa125 cc126 (((((([] : List Int) ++ (t38.set ((12 : Int) : Int).toNat 2)) ++ t61) ++ t86) ++ t71) ++ t86), own 5 (eI .u8) Aa88 cc89 t86, own 37 (eI .u32) Aa80 cc81 ([wu32 a1] : List Int), own 5 (eI .u8) Aa74 cc75 t71, own 5 (eI .u8) Aa64 cc65 t61, own 5 (eI .u8) (some ad56) cc42 (t38.set ((12 : Int) : Int).toNat 2), box g27 26 [.slice Aa16 t14.Words.length cc17, .slice Aa18 t14.Sites.length cc19, .slice Aa20 t14.Syms.length cc21], own 39 eSapi_Sym none 0 ([] : List Sapi_Sym), own 3 (eI .i64) none 0 ([] : List Int), own 37 (eI .u32) none 0 ([] : List Int), own 37 (eI .u32) Aa16 cc17 t14.Words, own 3 (eI .i64) Aa18 cc19 t14.Sites, own 39 eSapi_Sym Aa20 cc21 t14.Syms, box g2 48 [.slice A0_1 a0.Words.length c0_1, .slice A0_2 a0.Bits.length c0_2, .slice A0_3 a0.Names.length c0_3]] := hw
  replace hw := hw.up 3
  obtain ⟨wd246, hx247, hw⟩ := x_bput (P := Tryd.prog) (ty := 0) (t := 26) (y := (Operand.tmp 20)) (z := (Operand.tmp 100)) (o := 0) (p := (⟨g239, 0, none⟩ : Addr)) (v := .agg #[.slice Aa228 t225.Words.length cc229, .slice Aa230 t225.Sites.length cc231, .slice Aa232 t225.Syms.length cc233]) (vs := [.slice Aa228 t225.Words.length cc229, .slice Aa230 t225.Sites.length cc231, .slice Aa232 t225.Syms.length cc233]) (cs' := [.slice Aa228 t225.Words.length cc229, .slice Aa230 t225.Sites.length cc231, .slice Aa232 t225.Syms.length cc233]) hs hw (by kernel_rfl) rfl (by kernel_rfl) rfl (by kernel_rfl) (by kernel_rfl) (by simp [Value.oneCell']) rfl
  refine go_unit hs (by rfl) hx247 [20, 100] ?_; clear hs; intro a hs
  refine go_pvs 12 [101] [(21, .int .i64 t226)] hs ?_; clear hs; intro a hs
  refine go_end (hK217 _ _ ?_)
  refine go_seq_k fun K248 hK248 => ?_
  have hJ3 : ∀ (v250 : Bool) (a : Act) (w : World), Slots a 143 [(16, .pointer (some (⟨g183, 0, none⟩ : Addr))), (17, .int .i64 t170), (19, .int .i64 t195), (21, .int .i64 t226), (22, .bool v250)] → St [] w0 w [box g239 26 [.slice Aa228 t225.Words.length cc229, .slice Aa230 t225.Sites.length cc231, .slice Aa232 t225.Syms.length cc233], own 39 eSapi_Sym none 0 ([] : List Sapi_Sym), own 3 (eI .i64) none 0 ([] : List Int), own 37 (eI .u32) none 0 ([] : List Int), own 37 (eI .u32) Aa228 cc229 t225.Words, own 3 (eI .i64) Aa230 cc231 t225.Sites, own 39 eSapi_Sym Aa232 cc233 t225.Syms, box g208 26 [.slice Aa197 t194.Words.length cc198, .slice Aa199 t194.Sites.length cc200, .slice Aa201 t194.Syms.length cc202], own 39 eSapi_Sym none 0 ([] : List Sapi_Sym), own 3 (eI .i64) none 0 ([] : List Int), own 37 (eI .u32) none 0 ([] : List Int), own 37 (eI .u32) Aa197 cc198 t194.Words, own 3 (eI .i64) Aa199 cc200 t194.Sites, own 39 eSapi_Sym Aa201 cc202 t194.Syms, box g183 26 [.slice Aa172 t169.Words.length cc173, .slice Aa174 t169.Sites.length cc175, .slice Aa176 t169.Syms.length cc177], own 39 eSapi_Sym none 0 ([] : List Sapi_Sym), own 3 (eI .i64) none 0 ([] : List Int), own 37 (eI .u32) none 0 ([] : List Int), own 37 (eI .u32) Aa172 cc173 t169.Words, own 3 (eI .i64) Aa174 cc175 t169.Sites, own 39 eSapi_Sym Aa176 cc177 t169.Syms, own 5 (eI .u8) Aa162 cc163 (((((([] : List Int) ++ (t38.set ((12 : Int) : Int).toNat 2)) ++ t71) ++ t86) ++ t61) ++ t86), own 5 (eI .u8) Aa125 cc126 (((((([] : List Int) ++ (t38.set ((12 : Int) : Int).toNat 2)) ++ t61) ++ t86) ++ t71) ++ t86), own 5 (eI .u8) Aa88 cc89 t86, own 37 (eI .u32) Aa80 cc81 ([wu32 a1] : List Int), own 5 (eI .u8) Aa74 cc75 t71, own 5 (eI .u8) Aa64 cc65 t61, own 5 (eI .u8) (some ad56) cc42 (t38.set ((12 : Int) : Int).toNat 2), box g27 26 [.slice Aa16 t14.Words.length cc17, .slice Aa18 t14.Sites.length cc19, .slice Aa20 t14.Syms.length cc21], own 39 eSapi_Sym none 0 ([] : List Sapi_Sym), own 3 (eI .i64) none 0 ([] : List Int), own 37 (eI .u32) none 0 ([] : List Int), own 37 (eI .u32) Aa16 cc17 t14.Words, own 3 (eI .i64) Aa18 cc19 t14.Sites, own 39 eSapi_Sym Aa20 cc21 t14.Syms, box g2 48 [.slice A0_1 a0.Words.length c0_1, .slice A0_2 a0.Bits.length c0_2, .slice A0_3 a0.Names.length c0_3]] → rivetlaw10_FileNames.j3 t170 t169 t195 t226 v250 = some r → K248 a w := by
   intro v250 a w hs hw H
   unfold rivetlaw10_FileNames.j3 at H
   refine hK248 _ _ ?_
   refine go_seq_k fun K251 hK251 => ?_
   have hJ4 : ∀ (v258 : Bool) (a : Act) (w : World), Slots a 143 [(4, .bool v258)] → St [] w0 w [box g239 26 [.slice Aa228 t225.Words.length cc229, .slice Aa230 t225.Sites.length cc231, .slice Aa232 t225.Syms.length cc233], own 39 eSapi_Sym none 0 ([] : List Sapi_Sym), own 3 (eI .i64) none 0 ([] : List Int), own 37 (eI .u32) none 0 ([] : List Int), own 37 (eI .u32) Aa228 cc229 t225.Words, own 3 (eI .i64) Aa230 cc231 t225.Sites, own 39 eSapi_Sym Aa232 cc233 t225.Syms, box g208 26 [.slice Aa197 t194.Words.length cc198, .slice Aa199 t194.Sites.length cc200, .slice Aa201 t194.Syms.length cc202], own 39 eSapi_Sym none 0 ([] : List Sapi_Sym), own 3 (eI .i64) none 0 ([] : List Int), own 37 (eI .u32) none 0 ([] : List Int), own 37 (eI .u32) Aa197 cc198 t194.Words, own 3 (eI .i64) Aa199 cc200 t194.Sites, own 39 eSapi_Sym Aa201 cc202 t194.Syms, box g183 26 [.slice Aa172 t169.Words.length cc173, .slice Aa174 t169.Sites.length cc175, .slice Aa176 t169.Syms.length cc177], own 39 eSapi_Sym none 0 ([] : List Sapi_Sym), own 3 (eI .i64) none 0 ([] : List Int), own 37 (eI .u32) none 0 ([] : List Int), own 37 (eI .u32) Aa172 cc173 t169.Words, own 3 (eI .i64) Aa174 cc175 t169.Sites, own 39 eSapi_Sym Aa176 cc177 t169.Syms, own 5 (eI .u8) Aa162 cc163 (((((([] : List Int) ++ (t38.set ((12 : Int) : Int).toNat 2)) ++ t71) ++ t86) ++ t61) ++ t86), own 5 (eI .u8) Aa125 cc126 (((((([] : List Int) ++ (t38.set ((12 : Int) : Int).toNat 2)) ++ t61) ++ t86) ++ t71) ++ t86), own 5 (eI .u8) Aa88 cc89 t86, own 37 (eI .u32) Aa80 cc81 ([wu32 a1] : List Int), own 5 (eI .u8) Aa74 cc75 t71, own 5 (eI .u8) Aa64 cc65 t61, own 5 (eI .u8) (some ad56) cc42 (t38.set ((12 : Int) : Int).toNat 2), box g27 26 [.slice Aa16 t14.Words.length cc17, .slice Aa18 t14.Sites.length cc19, .slice Aa20 t14.Syms.length cc21], own 39 eSapi_Sym none 0 ([] : List Sapi_Sym), own 3 (eI .i64) none 0 ([] : List Int), own 37 (eI .u32) none 0 ([] : List Int), own 37 (eI .u32) Aa16 cc17 t14.Words, own 3 (eI .i64) Aa18 cc19 t14.Sites, own 39 eSapi_Sym Aa20 cc21 t14.Syms, box g2 48 [.slice A0_1 a0.Words.length c0_1, .slice A0_2 a0.Bits.length c0_2, .slice A0_3 a0.Names.length c0_3]] → rivetlaw10_FileNames.j4 v258 = some r → K251 a w := by
    intro v258 a w hs hw H
    unfold rivetlaw10_FileNames.j4 at H
    refine hK251 _ _ ?_
    refine wp_ret ?_
    obtain rfl := Option.some.inj H
    refine ret1 (t := 4) (v := .bool v258) hs (by kernel_rfl) (by kernel_rfl) ?_
    exact ⟨rfl, hw.only 0⟩
   refine go_region ?_
   refine go_pvs 5 [] [(118, .bool ((t170 == 0) == v250))] hs ?_; clear hs; intro a hs
   cases hb252 : ((t170 == 0) == v250)
   ·replace H := ite_f H (ff hb252)
    rw [hb252] at hs
    refine go_pvs 30 [16, 17, 19, 21, 22, 118] [(4, .bool false)] hs ?_; clear hs; intro a hs
    refine go_end ?_
    replace hw := hw.up 35
    replace hw := hw.up 35
    replace hw := hw.up 35
    replace hw := hw.up 35
    replace hw := hw.up 35
    replace hw := hw.up 35
    replace hw := hw.up 35
    replace hw := hw.up 35
    replace hw := hw.up 35
    replace hw := hw.up 35
    replace hw := hw.up 35
    replace hw := hw.up 35
    replace hw := hw.up 35
    replace hw := hw.up 35
    replace hw := hw.up 35
    replace hw := hw.up 35
    replace hw := hw.up 35
    replace hw := hw.up 35
    replace hw := hw.up 35
    replace hw := hw.up 35
    replace hw := hw.up 35
    replace hw := hw.up 35
    replace hw := hw.up 35
    replace hw := hw.up 35
    replace hw := hw.up 35
    replace hw := hw.up 35
    replace hw := hw.up 35
    replace hw := hw.up 35
    replace hw := hw.up 35
    replace hw := hw.up 35
    replace hw := hw.up 35
    replace hw := hw.up 35
    replace hw := hw.up 35
    replace hw := hw.up 35
    replace hw := hw.up 35
    replace hw := hw.up 35
    exact hJ4 false _ _ hs.kx hw H
   ·replace H := ite_t H hb252
    rw [hb252] at hs
    refine go_pvs 7 [] [(120, .bool v250)] hs ?_; clear hs; intro a hs
    cases hb253 : v250
    ·replace H := ite_f H (ff hb253)
     rw [hb253] at hs
     refine go_pvs 22 [16, 17, 22, 118, 120] [(135, .bool (t170 == 6))] hs ?_; clear hs; intro a hs
     cases hb254 : (t170 == 6)
     ·replace H := ite_f H (beq_eq_false_iff_ne.1 hb254)
      rw [hb254] at hs
      refine go_pvs 30 [19, 21, 135] [(4, .bool false)] hs ?_; clear hs; intro a hs
      refine go_end ?_
      replace hw := hw.up 35
      replace hw := hw.up 35
      replace hw := hw.up 35
      replace hw := hw.up 35
      replace hw := hw.up 35
      replace hw := hw.up 35
      replace hw := hw.up 35
      replace hw := hw.up 35
      replace hw := hw.up 35
      replace hw := hw.up 35
      replace hw := hw.up 35
      replace hw := hw.up 35
      replace hw := hw.up 35
      replace hw := hw.up 35
      replace hw := hw.up 35
      replace hw := hw.up 35
      replace hw := hw.up 35
      replace hw := hw.up 35
      replace hw := hw.up 35
      replace hw := hw.up 35
      replace hw := hw.up 35
      replace hw := hw.up 35
      replace hw := hw.up 35
      replace hw := hw.up 35
      replace hw := hw.up 35
      replace hw := hw.up 35
      replace hw := hw.up 35
      replace hw := hw.up 35
      replace hw := hw.up 35
      replace hw := hw.up 35
      replace hw := hw.up 35
      replace hw := hw.up 35
      replace hw := hw.up 35
      replace hw := hw.up 35
      replace hw := hw.up 35
      replace hw := hw.up 35
      exact hJ4 false _ _ hs.kx hw H
     ·replace H := ite_t H (beq_iff_eq.1 hb254)
      rw [hb254] at hs
      refine go_pvs 26 [19, 135] [(139, .bool (t195 == 6))] hs ?_; clear hs; intro a hs
      cases hb255 : (t195 == 6)
      ·replace H := ite_f H (beq_eq_false_iff_ne.1 hb255)
       rw [hb255] at hs
       refine go_pvs 30 [21, 139] [(4, .bool false)] hs ?_; clear hs; intro a hs
       refine go_end ?_
       replace hw := hw.up 35
       replace hw := hw.up 35
       replace hw := hw.up 35
       replace hw := hw.up 35
       replace hw := hw.up 35
       replace hw := hw.up 35
       replace hw := hw.up 35
       replace hw := hw.up 35
       replace hw := hw.up 35
       replace hw := hw.up 35
       replace hw := hw.up 35
       replace hw := hw.up 35
       replace hw := hw.up 35
       replace hw := hw.up 35
       replace hw := hw.up 35
       replace hw := hw.up 35
       replace hw := hw.up 35
       replace hw := hw.up 35
       replace hw := hw.up 35
       replace hw := hw.up 35
       replace hw := hw.up 35
       replace hw := hw.up 35
       replace hw := hw.up 35
       replace hw := hw.up 35
       replace hw := hw.up 35
       replace hw := hw.up 35
       replace hw := hw.up 35
       replace hw := hw.up 35
       replace hw := hw.up 35
       replace hw := hw.up 35
       replace hw := hw.up 35
       replace hw := hw.up 35
       replace hw := hw.up 35
       replace hw := hw.up 35
       replace hw := hw.up 35
       replace hw := hw.up 35
       exact hJ4 false _ _ hs.kx hw H
      ·replace H := ite_t H (beq_iff_eq.1 hb255)
       rw [hb255] at hs
       refine go_pvs 30 [21, 139] [(4, .bool (t226 == 3))] hs ?_; clear hs; intro a hs
       refine go_end ?_
       replace hw := hw.up 35
       replace hw := hw.up 35
       replace hw := hw.up 35
       replace hw := hw.up 35
       replace hw := hw.up 35
       replace hw := hw.up 35
       replace hw := hw.up 35
       replace hw := hw.up 35
       replace hw := hw.up 35
       replace hw := hw.up 35
       replace hw := hw.up 35
       replace hw := hw.up 35
       replace hw := hw.up 35
       replace hw := hw.up 35
       replace hw := hw.up 35
       replace hw := hw.up 35
       replace hw := hw.up 35
       replace hw := hw.up 35
       replace hw := hw.up 35
       replace hw := hw.up 35
       replace hw := hw.up 35
       replace hw := hw.up 35
       replace hw := hw.up 35
       replace hw := hw.up 35
       replace hw := hw.up 35
       replace hw := hw.up 35
       replace hw := hw.up 35
       replace hw := hw.up 35
       replace hw := hw.up 35
       replace hw := hw.up 35
       replace hw := hw.up 35
       replace hw := hw.up 35
       replace hw := hw.up 35
       replace hw := hw.up 35
       replace hw := hw.up 35
       replace hw := hw.up 35
       exact hJ4 (t226 == 3) _ _ hs.kx hw H
    ·replace H := ite_t H hb253
     rw [hb253] at hs
     refine go_pvs 8 [16] [(121, .pointer (some (((⟨g183, 0, none⟩ : Addr) : Addr).add 2)))] hs ?_; clear hs; intro a hs
     refine go_run hs (by rfl) (x_bld (g := g183) (o := 2) (p := ((⟨g183, 0, none⟩ : Addr) : Addr).add 2) (v := .slice Aa176 t169.Syms.length cc177) (hw.up 14)) [121] ?_; clear hs; intro a hs
     refine go_pvs 13 [120, 122] [(126, .bool ((t169.Syms.length : Int) == 2))] hs ?_; clear hs; intro a hs
     cases hb256 : ((t169.Syms.length : Int) == 2)
     ·replace H := ite_f H (beq_eq_false_iff_ne.1 hb256)
      rw [hb256] at hs
      refine go_pvs 30 [17, 19, 21, 22, 118, 126] [(4, .bool false)] hs ?_; clear hs; intro a hs
      refine go_end ?_
      replace hw := hw.up 35
      replace hw := hw.up 35
      replace hw := hw.up 35
      replace hw := hw.up 35
      replace hw := hw.up 35
      replace hw := hw.up 35
      replace hw := hw.up 35
      replace hw := hw.up 35
      replace hw := hw.up 35
      replace hw := hw.up 35
      replace hw := hw.up 35
      replace hw := hw.up 35
      replace hw := hw.up 35
      replace hw := hw.up 35
      replace hw := hw.up 35
      replace hw := hw.up 35
      replace hw := hw.up 35
      replace hw := hw.up 35
      replace hw := hw.up 35
      replace hw := hw.up 35
      replace hw := hw.up 35
      replace hw := hw.up 35
      replace hw := hw.up 35
      replace hw := hw.up 35
      replace hw := hw.up 35
      replace hw := hw.up 35
      replace hw := hw.up 35
      replace hw := hw.up 35
      replace hw := hw.up 35
      replace hw := hw.up 35
      replace hw := hw.up 35
      replace hw := hw.up 35
      replace hw := hw.up 35
      replace hw := hw.up 35
      replace hw := hw.up 35
      replace hw := hw.up 35
      exact hJ4 false _ _ hs.kx hw H
     ·replace H := ite_t H (beq_iff_eq.1 hb256)
      rw [hb256] at hs
      refine go_pvs 26 [17, 19, 22, 118, 126] [(139, .bool (t195 == 6))] hs ?_; clear hs; intro a hs
      cases hb257 : (t195 == 6)
      ·replace H := ite_f H (beq_eq_false_iff_ne.1 hb257)
       rw [hb257] at hs
       refine go_pvs 30 [21, 139] [(4, .bool false)] hs ?_; clear hs; intro a hs
       refine go_end ?_
       replace hw := hw.up 35
       replace hw := hw.up 35
       replace hw := hw.up 35
       replace hw := hw.up 35
       replace hw := hw.up 35
       replace hw := hw.up 35
       replace hw := hw.up 35
       replace hw := hw.up 35
       replace hw := hw.up 35
       replace hw := hw.up 35
       replace hw := hw.up 35
       replace hw := hw.up 35
       replace hw := hw.up 35
       replace hw := hw.up 35
       replace hw := hw.up 35
       replace hw := hw.up 35
       replace hw := hw.up 35
       replace hw := hw.up 35
       replace hw := hw.up 35
       replace hw := hw.up 35
       replace hw := hw.up 35
       replace hw := hw.up 35
       replace hw := hw.up 35
       replace hw := hw.up 35
       replace hw := hw.up 35
       replace hw := hw.up 35
       replace hw := hw.up 35
       replace hw := hw.up 35
       replace hw := hw.up 35
       replace hw := hw.up 35
       replace hw := hw.up 35
       replace hw := hw.up 35
       replace hw := hw.up 35
       replace hw := hw.up 35
       replace hw := hw.up 35
       replace hw := hw.up 35
       exact hJ4 false _ _ hs.kx hw H
      ·replace H := ite_t H (beq_iff_eq.1 hb257)
       rw [hb257] at hs
       refine go_pvs 30 [21, 139] [(4, .bool (t226 == 3))] hs ?_; clear hs; intro a hs
       refine go_end ?_
       replace hw := hw.up 35
       replace hw := hw.up 35
       replace hw := hw.up 35
       replace hw := hw.up 35
       replace hw := hw.up 35
       replace hw := hw.up 35
       replace hw := hw.up 35
       replace hw := hw.up 35
       replace hw := hw.up 35
       replace hw := hw.up 35
       replace hw := hw.up 35
       replace hw := hw.up 35
       replace hw := hw.up 35
       replace hw := hw.up 35
       replace hw := hw.up 35
       replace hw := hw.up 35
       replace hw := hw.up 35
       replace hw := hw.up 35
       replace hw := hw.up 35
       replace hw := hw.up 35
       replace hw := hw.up 35
       replace hw := hw.up 35
       replace hw := hw.up 35
       replace hw := hw.up 35
       replace hw := hw.up 35
       replace hw := hw.up 35
       replace hw := hw.up 35
       replace hw := hw.up 35
       replace hw := hw.up 35
       replace hw := hw.up 35
       replace hw := hw.up 35
       replace hw := hw.up 35
       replace hw := hw.up 35
       replace hw := hw.up 35
       replace hw := hw.up 35
       replace hw := hw.up 35
       exact hJ4 (t226 == 3) _ _ hs.kx hw H
  refine go_region ?_
  refine go_pvs 4 [] [(105, .bool ((a1.tmod 4) == 0))] hs ?_; clear hs; intro a hs
  cases hb249 : ((a1.tmod 4) == 0)
  ·replace H := ite_f H (beq_eq_false_iff_ne.1 hb249)
   rw [hb249] at hs
   refine go_pvs 13 [1, 6, 105] [(22, .bool false)] hs ?_; clear hs; intro a hs
   refine go_end ?_
   replace hw := hw.up 35
   replace hw := hw.up 35
   replace hw := hw.up 35
   replace hw := hw.up 35
   replace hw := hw.up 35
   replace hw := hw.up 35
   replace hw := hw.up 35
   replace hw := hw.up 35
   replace hw := hw.up 35
   replace hw := hw.up 35
   replace hw := hw.up 35
   replace hw := hw.up 35
   replace hw := hw.up 35
   replace hw := hw.up 35
   replace hw := hw.up 35
   replace hw := hw.up 35
   replace hw := hw.up 35
   replace hw := hw.up 35
   replace hw := hw.up 35
   replace hw := hw.up 35
   replace hw := hw.up 35
   replace hw := hw.up 35
   replace hw := hw.up 35
   replace hw := hw.up 35
   replace hw := hw.up 35
   replace hw := hw.up 35
   replace hw := hw.up 35
   replace hw := hw.up 35
   replace hw := hw.up 35
   replace hw := hw.up 35
   replace hw := hw.up 35
   replace hw := hw.up 35
   replace hw := hw.up 35
   replace hw := hw.up 35
   replace hw := hw.up 35
   replace hw := hw.up 35
   exact hJ3 false _ _ hs.kx hw H
  ·replace H := ite_t H (beq_iff_eq.1 hb249)
   rw [hb249] at hs
   refine go_pvs 7 [1, 6] [(107, .int .i64 (w64 a1)), (108, .pointer (some (((⟨g27, 0, none⟩ : Addr) : Addr).add 0)))] hs ?_; clear hs; intro a hs
   refine go_run hs (by rfl) (x_bld (g := g27) (o := 0) (p := ((⟨g27, 0, none⟩ : Addr) : Addr).add 0) (v := .slice Aa16 t14.Words.length cc17) (hw.up 28)) [108] ?_; clear hs; intro a hs
   refine go_pvs 13 [105, 107, 109] [(22, .bool (decide ((w64 a1) ≤ (w64 (4 * (t14.Words.length : Int))))))] hs ?_; clear hs; intro a hs
   refine go_end ?_
   replace hw := hw.up 35
   replace hw := hw.up 35
   replace hw := hw.up 35
   replace hw := hw.up 35
   replace hw := hw.up 35
   replace hw := hw.up 35
   replace hw := hw.up 35
   replace hw := hw.up 35
   replace hw := hw.up 35
   replace hw := hw.up 35
   replace hw := hw.up 35
   replace hw := hw.up 35
   replace hw := hw.up 35
   replace hw := hw.up 35
   replace hw := hw.up 35
   replace hw := hw.up 35
   replace hw := hw.up 35
   replace hw := hw.up 35
   replace hw := hw.up 35
   replace hw := hw.up 35
   replace hw := hw.up 35
   replace hw := hw.up 35
   replace hw := hw.up 35
   replace hw := hw.up 35
   replace hw := hw.up 35
   replace hw := hw.up 35
   replace hw := hw.up 35
   replace hw := hw.up 35
   replace hw := hw.up 35
   replace hw := hw.up 35
   replace hw := hw.up 35
   replace hw := hw.up 35
   replace hw := hw.up 35
   replace hw := hw.up 35
   replace hw := hw.up 35
   replace hw := hw.up 35
   exact hJ3 (decide ((w64 a1) ≤ (w64 (4 * (t14.Words.length : Int))))) _ _ hs.kx hw H
 refine go_seq_k fun K47 hK47 => ?_
 have hJ1 : ∀ (v50 : Bool) (a : Act) (w : World), Slots a 143 [(1, .int .u16 a1), (6, .pointer (some (⟨g27, 0, none⟩ : Addr))), (7, .slice Aa41 t38.length cc42), (44, .bool v50)] → St [] w0 w [own 5 (eI .u8) Aa41 cc42 t38, box g27 26 [.slice Aa16 t14.Words.length cc17, .slice Aa18 t14.Sites.length cc19, .slice Aa20 t14.Syms.length cc21], own 39 eSapi_Sym none 0 ([] : List Sapi_Sym), own 3 (eI .i64) none 0 ([] : List Int), own 37 (eI .u32) none 0 ([] : List Int), own 37 (eI .u32) Aa16 cc17 t14.Words, own 3 (eI .i64) Aa18 cc19 t14.Sites, own 39 eSapi_Sym Aa20 cc21 t14.Syms, box g2 48 [.slice A0_1 a0.Words.length c0_1, .slice A0_2 a0.Bits.length c0_2, .slice A0_3 a0.Names.length c0_3]] → rivetlaw10_FileNames.j1 t38 a1 t14 v50 = some r → K47 a w := by
  intro v50 a w hs hw H
  unfold rivetlaw10_FileNames.j1 at H
  refine hK47 _ _ ?_
  refine go_cond hs v50 (fun hc => ?_) fun hc => ?_
  ·replace H := ite_t H hc
   have hb51 := hc
   rw [hb51] at hs
   refine go_sp [1, 6, 7, 44] [(4, .bool false)] hs ?_; clear hs; intro a hs
   refine wp_ret ?_
   refine th_ret ?_
   obtain rfl := Option.some.inj H
   refine ret1 (t := 4) (v := .bool false) hs (by kernel_rfl) (by kernel_rfl) ?_
   exact ⟨rfl, hw.only 0⟩
  ·replace H := ite_f H (ff hc)
   have hb53 := hc
   rw [hb53] at hs
   refine wp_skip ?_
   replace hw := hw.up 8
   replace hw := hw.up 8
   replace hw := hw.up 8
   replace hw := hw.up 8
   replace hw := hw.up 8
   replace hw := hw.up 8
   replace hw := hw.up 8
   replace hw := hw.up 8
   replace hw := hw.up 8
   exact hJ2 _ _ hs.kx hw H
 refine go_region ?_
 refine go_pvs 3 [5] [(36, .bool (!t8))] hs ?_; clear hs; intro a hs
 cases hb48 : (!t8)
 ·replace H := ite_t H (nf hb48)
  rw [hb48] at hs
  refine go_pvs 7 [8, 36] [(40, .bool (t39 != 0))] hs ?_; clear hs; intro a hs
  cases hb49 : (t39 != 0)
  ·replace H := ite_t H (bne_eq_false_iff_eq.1 hb49)
   rw [hb49] at hs
   refine go_pvs 11 [40] [(44, .bool (decide ((t38.length : Int) < 16)))] hs ?_; clear hs; intro a hs
   refine go_end ?_
   replace hw := hw.up 8
   replace hw := hw.up 8
   replace hw := hw.up 8
   replace hw := hw.up 8
   replace hw := hw.up 8
   replace hw := hw.up 8
   replace hw := hw.up 8
   replace hw := hw.up 8
   replace hw := hw.up 8
   exact hJ1 (decide ((t38.length : Int) < 16)) _ _ hs.kx hw H
  ·replace H := ite_f H (bne_iff_ne.1 hb49)
   rw [hb49] at hs
   refine go_pvs 11 [40] [(44, .bool true)] hs ?_; clear hs; intro a hs
   refine go_end ?_
   replace hw := hw.up 8
   replace hw := hw.up 8
   replace hw := hw.up 8
   replace hw := hw.up 8
   replace hw := hw.up 8
   replace hw := hw.up 8
   replace hw := hw.up 8
   replace hw := hw.up 8
   replace hw := hw.up 8
   exact hJ1 true _ _ hs.kx hw H
 ·replace H := ite_f H (ff (nt hb48))
  rw [hb48] at hs
  refine go_pvs 11 [8, 36] [(44, .bool true)] hs ?_; clear hs; intro a hs
  refine go_end ?_
  replace hw := hw.up 8
  replace hw := hw.up 8
  replace hw := hw.up 8
  replace hw := hw.up 8
  replace hw := hw.up 8
  replace hw := hw.up 8
  replace hw := hw.up 8
  replace hw := hw.up 8
  replace hw := hw.up 8
  exact hJ1 true _ _ hs.kx hw H

end Go.Proofs.YtmfnololpfdfdaaDoor.T09
