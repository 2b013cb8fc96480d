/- YtmfnololpfdfdaaDoorT09zObjectUnlike: Go functions told as plain ones, each with a proof that its call comes to what is told, part 1. Condition of each: that the plain function comes to a value. -/
import Derived.Test.YtmfnololpfdfdaaDoorT09
import Derived.Test.YtmfnololpfdfdaaDoorEN
import Derived.Test.YtmfnololpfdfdaaDoorProg
namespace Go.Proofs.YtmfnololpfdfdaaDoor.T09
open Go Go.RowKit Go.Proofs.YtmfnololpfdfdaaDoor.E
set_option linter.unusedVariables false
set_option linter.unusedSimpArgs false
structure Srivetlaw09_Parts where
  Words : List Int
  Bits : List Int
  Names : List ByteArray
def okSrivetlaw09_Parts (x : Srivetlaw09_Parts) : Prop := (∀ n ∈ x.Words, In .u32 n) ∧ x.Words.length * 4 ≤ 140737488351232 ∧ (∀ n ∈ x.Bits, In .u8 n) ∧ x.Bits.length * 1 ≤ 140737488351232 ∧ (∀ n ∈ x.Names, n.size ≤ 140737488351232) ∧ x.Names.length * 16 ≤ 140737488351232
def mSrivetlaw09_Parts (A : Option Addr) (x : Srivetlaw09_Parts) : Asn := fun L => ∃ g A1 c1 A2 c2 A3 c3, A = some ⟨g, 0, none⟩ ∧ Cov [box g 35 [.slice A1 x.Words.length c1, .slice A2 x.Bits.length c2, .slice A3 x.Names.length c3], own 37 (eI .u32) A1 c1 x.Words, own 5 (eI .u8) A2 c2 x.Bits, own 9 eS A3 c3 x.Names] L
theorem mSrivetlaw09_Parts.open {G : List Nat} {w0 w : World} {As : List Asn} {A : Option Addr} {x : Srivetlaw09_Parts} (h : St G w0 w (mSrivetlaw09_Parts A x :: As)) : ∃ g A1 c1 A2 c2 A3 c3, A = some ⟨g, 0, none⟩ ∧ St G w0 w ([box g 35 [.slice A1 x.Words.length c1, .slice A2 x.Bits.length c2, .slice A3 x.Names.length c3], own 37 (eI .u32) A1 c1 x.Words, own 5 (eI .u8) A2 c2 x.Bits, own 9 eS A3 c3 x.Names] ++ As) := by
  obtain ⟨L, ⟨L1, L2, rfl, ⟨g, A1, c1, A2, c2, A3, c3, rfl, hc⟩, hr⟩, hs⟩ := h
  exact ⟨g, A1, c1, A2, c2, A3, c3, rfl, _, Cov.join hr hc, hs⟩
theorem mSrivetlaw09_Parts.open1 {G : List Nat} {w0 w : World} {As : List Asn} {g : Nat} {x : Srivetlaw09_Parts} (h : St G w0 w (mSrivetlaw09_Parts (some ⟨g, 0, none⟩) x :: As)) : ∃ A1 c1 A2 c2 A3 c3, St G w0 w ([box g 35 [.slice A1 x.Words.length c1, .slice A2 x.Bits.length c2, .slice A3 x.Names.length c3], own 37 (eI .u32) A1 c1 x.Words, own 5 (eI .u8) A2 c2 x.Bits, own 9 eS A3 c3 x.Names] ++ As) := by
  obtain ⟨g', A1, c1, A2, c2, A3, c3, hg, h⟩ := mSrivetlaw09_Parts.open h
  cases hg
  exact ⟨A1, c1, A2, c2, A3, c3, h⟩
theorem mSrivetlaw09_Parts.close {G : List Nat} {w0 w : World} {As : List Asn} {g : Nat} {A1 : Option Addr} {c1 : Nat} {A2 : Option Addr} {c2 : Nat} {A3 : Option Addr} {c3 : Nat} {x : Srivetlaw09_Parts} (h : St G w0 w ([box g 35 [.slice A1 x.Words.length c1, .slice A2 x.Bits.length c2, .slice A3 x.Names.length c3], own 37 (eI .u32) A1 c1 x.Words, own 5 (eI .u8) A2 c2 x.Bits, own 9 eS A3 c3 x.Names] ++ As)) : St G w0 w (mSrivetlaw09_Parts (some ⟨g, 0, none⟩) x :: As) := by
  obtain ⟨L, hc, hs⟩ := h
  obtain ⟨L1, L2, rfl, h1, h2⟩ := Cov.split (Gs := [box g 35 [.slice A1 x.Words.length c1, .slice A2 x.Bits.length c2, .slice A3 x.Names.length c3], own 37 (eI .u32) A1 c1 x.Words, own 5 (eI .u8) A2 c2 x.Bits, own 9 eS A3 c3 x.Names]) hc
  exact ⟨_, ⟨L1, L2, rfl, ⟨g, A1, c1, A2, c2, A3, c3, rfl, h1⟩, h2⟩, hs⟩
/-! rivet/rivetlaw09.ObjectUnlike: function 6 -/
noncomputable def rivetlaw09_ObjectUnlike.j6 (v165 : Bool) : Option Bool := some v165
noncomputable def rivetlaw09_ObjectUnlike.j5 (t8 : Bool) (t14 : Sapi_Obj) (l138 : List Int) (l141 : List Int) (l144 : List Sapi_Sym) (v145 : Bool) : Option Bool := (if t8 = true then ((object_Same t14 (⟨l141, l138, l144⟩ : Sapi_Obj)).bind fun t149 => ((if (t149 == (!v145)) = true then ((object_Same (⟨l141, l138, l144⟩ : Sapi_Obj) t14).bind fun t155 => ((if (t155 == (!v145)) = true then ((object_Same (⟨l141, l138, l144⟩ : Sapi_Obj) (⟨l141, l138, l144⟩ : Sapi_Obj)).bind fun t161 => (rivetlaw09_ObjectUnlike.j6 t161)) else rivetlaw09_ObjectUnlike.j6 false))) else rivetlaw09_ObjectUnlike.j6 false))) else rivetlaw09_ObjectUnlike.j6 false)
noncomputable def rivetlaw09_ObjectUnlike.j4 (t38 : Sapi_Obj) (a2 : Int) (t8 : Bool) (t14 : Sapi_Obj) (a1 : Int) (v107 : Bool) : Option Bool := (if v107 = true then (if (t38.Syms.length : Int) ≠ 0 then (nm ((w64 a2).tmod (t38.Syms.length : Int)) fun y111 => (if 0 ≤ y111 ∧ y111 < (t38.Syms.length : Int) then (if 0 ≤ y111 ∧ y111 < (t38.Syms.length : Int) then rivetlaw09_ObjectUnlike.j5 t8 t14 t38.Sites t38.Words (t38.Syms.set (y111 : Int).toNat ({ (ix eSapi_Sym.d t38.Syms y111) with At := w64 (((ix eSapi_Sym.d t38.Syms y111).At) + 4) } : Sapi_Sym)) true else none) else none)) else none) else (if (a1.tmod 5) = 4 then (if t38.Words.length + ([0] : List Int).length ≤ 35184372088832 then rivetlaw09_ObjectUnlike.j5 t8 t14 t38.Sites (t38.Words ++ ([0] : List Int)) t38.Syms true else none) else rivetlaw09_ObjectUnlike.j5 t8 t14 t38.Sites t38.Words t38.Syms false))
noncomputable def rivetlaw09_ObjectUnlike.j3 (t38 : Sapi_Obj) (a2 : Int) (t8 : Bool) (t14 : Sapi_Obj) (a1 : Int) (v92 : Bool) : Option Bool := (if v92 = true then (if (t38.Syms.length : Int) ≠ 0 then (nm ((w64 a2).tmod (t38.Syms.length : Int)) fun y96 => (if 0 ≤ y96 ∧ y96 < (t38.Syms.length : Int) then (if ((ix eSapi_Sym.d t38.Syms y96).Name).size + (⟨#[95]⟩ : ByteArray).size ≤ 4611686018427387904 then (if 0 ≤ y96 ∧ y96 < (t38.Syms.length : Int) then rivetlaw09_ObjectUnlike.j5 t8 t14 t38.Sites t38.Words (t38.Syms.set (y96 : Int).toNat ({ (ix eSapi_Sym.d t38.Syms y96) with Name := ((ix eSapi_Sym.d t38.Syms y96).Name) ++ (⟨#[95]⟩ : ByteArray) } : Sapi_Sym)) true else none) else none) else none)) else none) else (if (a1.tmod 5) = 3 then rivetlaw09_ObjectUnlike.j4 t38 a2 t8 t14 a1 (decide ((t38.Syms.length : Int) > 0)) else rivetlaw09_ObjectUnlike.j4 t38 a2 t8 t14 a1 false))
noncomputable def rivetlaw09_ObjectUnlike.j2 (t38 : Sapi_Obj) (t8 : Bool) (t14 : Sapi_Obj) (a1 : Int) (a2 : Int) (v78 : Bool) : Option Bool := (if v78 = true then (if 0 ≤ (w64 ((t38.Sites.length : Int) - 1)) ∧ (w64 ((t38.Sites.length : Int) - 1)) ≤ (t38.Sites.length : Int) then rivetlaw09_ObjectUnlike.j5 t8 t14 (t38.Sites.take (w64 ((t38.Sites.length : Int) - 1) : Int).toNat) t38.Words t38.Syms true else none) else (if (a1.tmod 5) = 2 then rivetlaw09_ObjectUnlike.j3 t38 a2 t8 t14 a1 (decide ((t38.Syms.length : Int) > 0)) else rivetlaw09_ObjectUnlike.j3 t38 a2 t8 t14 a1 false))
noncomputable def rivetlaw09_ObjectUnlike.j1 (t38 : Sapi_Obj) (a2 : Int) (t8 : Bool) (t14 : Sapi_Obj) (a1 : Int) (v64 : Bool) : Option Bool := (if v64 = true then (if (t38.Words.length : Int) ≠ 0 then (nm ((w64 a2).tmod (t38.Words.length : Int)) fun y68 => (if 0 ≤ y68 ∧ y68 < (t38.Words.length : Int) then (if 0 ≤ y68 ∧ y68 < (t38.Words.length : Int) then rivetlaw09_ObjectUnlike.j5 t8 t14 t38.Sites (t38.Words.set (y68 : Int).toNat (wu32 ((ix (eI .u32).d t38.Words y68) + 1))) t38.Syms true else none) else none)) else none) else (if (a1.tmod 5) = 1 then rivetlaw09_ObjectUnlike.j2 t38 t8 t14 a1 a2 (decide ((t38.Sites.length : Int) > 0)) else rivetlaw09_ObjectUnlike.j2 t38 t8 t14 a1 a2 false))
noncomputable def rivetlaw09_ObjectUnlike (a0 : Srivetlaw09_Parts) (a1 : Int) (a2 : Int) : Option Bool := ((rivetlaw09_shown).bind fun t8 => (((rivetref09_Fit a0.Words a0.Bits a0.Names).bind fun t14 => (((rivetref09_Fit a0.Words a0.Bits a0.Names).bind fun t38 => ((if (a1.tmod 5) = 0 then rivetlaw09_ObjectUnlike.j1 t38 a2 t8 t14 a1 (decide ((t38.Words.length : Int) > 0)) else rivetlaw09_ObjectUnlike.j1 t38 a2 t8 t14 a1 false)))))))
set_option maxRecDepth 100000 in
set_option maxHeartbeats 4000000 in
theorem rivetlaw09_ObjectUnlike.calls (a0 : Srivetlaw09_Parts) (A0_1 : Option Addr) (c0_1 : Nat) (A0_2 : Option Addr) (c0_2 : Nat) (A0_3 : Option Addr) (c0_3 : Nat) (a1 : Int) (a2 : Int) (r : Bool) (w0 : World) (hr0_1 : Rd w0 (eI .u32) A0_1 c0_1 a0.Words) (hr0_2 : Rd w0 (eI .u8) A0_2 c0_2 a0.Bits) (hr0_3 : Rd w0 eS A0_3 c0_3 a0.Names) (H : rivetlaw09_ObjectUnlike a0 a1 a2 = some r) :
    Calls Tryd.prog 6 #[.agg #[.slice A0_1 a0.Words.length c0_1, .slice A0_2 a0.Bits.length c0_2, .slice A0_3 a0.Names.length c0_3], .int .u8 a1, .int .u8 a2] w0 fun e w' => e = .returned (.bool r) ∧ St [] w0 w' [] := by
 have hw : St [] w0 w0 [] := St.nil w0
 unfold rivetlaw09_ObjectUnlike at H
 refine go_fn Tryd.func6 rfl 160 Tryd.ntmps6 [(0, .agg #[.slice A0_1 a0.Words.length c0_1, .slice A0_2 a0.Bits.length c0_2, .slice A0_3 a0.Names.length c0_3]), (1, .int .u8 a1), (2, .int .u8 a2)] (by kernel_rfl) rfl ?_
 intro a hs
 refine go_seq_k fun K1 hK1 => ?_
 refine go_region ?_
 obtain ⟨g2, wd3, hx4, hw⟩ := x_boxc (P := Tryd.prog) (elem := 35) (v := (Operand.tmp 0)) (ty := 0) (cs := [.slice A0_1 a0.Words.length c0_1, .slice A0_2 a0.Bits.length c0_2, .slice A0_3 a0.Names.length c0_3]) hs hw (by kernel_rfl)
 refine go_run hs (op := (Op.box 35 (Operand.tmp 0))) (ty := 0) (dst := some 3) (g := none) (by kernel_rfl) (by kernel_rfl) (by kernel_rfl) hx4 [1, 2, 3] (L' := [(1, .int .u8 a1), (2, .int .u8 a2), (3, .pointer (some (⟨g2, 0, none⟩ : Addr)))]) (by kernel_rfl) ?_
 clear hs; intro a hs
 refine go_pvs 1 2 [1, 2, 3] hs (L' := [(1, .int .u8 a1), (2, .int .u8 a2), (3, .pointer (some (⟨g2, 0, none⟩ : Addr)))]) (by kernel_rfl) ?_ rfl
 clear hs; intro a hs
 refine go_end (by kernel_rfl) ?_
 refine hK1 _ _ ?_
 refine go_seq_k fun K6 hK6 => ?_
 refine go_region ?_
 obtain ⟨t8, hx9, H⟩ := bind_some H
 refine go_call hs (op := (Op.call { callee := (Callee.value (Operand.func 13)), args := #[], argTypes := #[] })) (ty := 4) (dst := some 14) (g := none) (by kernel_rfl) (by kernel_rfl) (by kernel_rfl) (f := 13) (args := #[]) (by kernel_rfl) (rivetlaw09_shown.calls t8 _ hx9) ?_
 rintro e wd10 ⟨rfl, hw11⟩
 refine ⟨_, rfl, ?_⟩
 replace hw := hw.call hw11
 intro a hs1
 replace hs : Slots a 160 [(1, .int .u8 a1), (2, .int .u8 a2), (3, .pointer (some (⟨g2, 0, none⟩ : Addr))), (14, .bool t8)] := hs1.keep [1, 2, 3, 14] (by kernel_rfl)
 clear hs1
 refine go_pvs 1 2 [1, 2, 3, 7] hs (L' := [(1, .int .u8 a1), (2, .int .u8 a2), (3, .pointer (some (⟨g2, 0, none⟩ : Addr))), (7, .bool t8)]) (by kernel_rfl) ?_ rfl
 clear hs; intro a hs
 refine go_end (by kernel_rfl) ?_
 refine hK6 _ _ ?_
 refine go_seq_k fun K12 hK12 => ?_
 refine go_region ?_
 refine go_pvs 0 1 [1, 2, 3, 7, 15] hs (L' := [(1, .int .u8 a1), (2, .int .u8 a2), (3, .pointer (some (⟨g2, 0, none⟩ : Addr))), (7, .bool t8), (15, .pointer (some (((⟨g2, 0, none⟩ : Addr) : Addr).add 0)))]) (by kernel_rfl) ?_ rfl
 clear hs; intro a hs
 refine go_run hs (op := (Op.load 22 (Operand.tmp 15))) (ty := 22) (dst := some 16) (g := none) (by kernel_rfl) (by kernel_rfl) (by kernel_rfl) (x_bld (g := g2) (o := 0) (p := ((⟨g2, 0, none⟩ : Addr) : Addr).add 0) (v := .slice A0_1 a0.Words.length c0_1) (hw.up 0) (by kernel_rfl) rfl (by kernel_rfl) (by kernel_rfl)) [1, 2, 3, 7, 16] (L' := [(1, .int .u8 a1), (2, .int .u8 a2), (3, .pointer (some (⟨g2, 0, none⟩ : Addr))), (7, .bool t8), (16, .slice A0_1 a0.Words.length c0_1)]) (by kernel_rfl) ?_
 clear hs; intro a hs
 refine go_pvs 2 3 [1, 2, 3, 7, 16, 17] hs (L' := [(1, .int .u8 a1), (2, .int .u8 a2), (3, .pointer (some (⟨g2, 0, none⟩ : Addr))), (7, .bool t8), (16, .slice A0_1 a0.Words.length c0_1), (17, .pointer (some (((⟨g2, 0, none⟩ : Addr) : Addr).add 1)))]) (by kernel_rfl) ?_ rfl
 clear hs; intro a hs
 refine go_run hs (op := (Op.load 32 (Operand.tmp 17))) (ty := 32) (dst := some 18) (g := none) (by kernel_rfl) (by kernel_rfl) (by kernel_rfl) (x_bld (g := g2) (o := 1) (p := ((⟨g2, 0, none⟩ : Addr) : Addr).add 1) (v := .slice A0_2 a0.Bits.length c0_2) (hw.up 0) (by kernel_rfl) rfl (by kernel_rfl) (by kernel_rfl)) [1, 2, 3, 7, 16, 18] (L' := [(1, .int .u8 a1), (2, .int .u8 a2), (3, .pointer (some (⟨g2, 0, none⟩ : Addr))), (7, .bool t8), (16, .slice A0_1 a0.Words.length c0_1), (18, .slice A0_2 a0.Bits.length c0_2)]) (by kernel_rfl) ?_
 clear hs; intro a hs
 refine go_pvs 4 5 [1, 2, 3, 7, 16, 18, 19] hs (L' := [(1, .int .u8 a1), (2, .int .u8 a2), (3, .pointer (some (⟨g2, 0, none⟩ : Addr))), (7, .bool t8), (16, .slice A0_1 a0.Words.length c0_1), (18, .slice A0_2 a0.Bits.length c0_2), (19, .pointer (some (((⟨g2, 0, none⟩ : Addr) : Addr).add 2)))]) (by kernel_rfl) ?_ rfl
 clear hs; intro a hs
 refine go_run hs (op := (Op.load 33 (Operand.tmp 19))) (ty := 33) (dst := some 20) (g := none) (by kernel_rfl) (by kernel_rfl) (by kernel_rfl) (x_bld (g := g2) (o := 2) (p := ((⟨g2, 0, none⟩ : Addr) : Addr).add 2) (v := .slice A0_3 a0.Names.length c0_3) (hw.up 0) (by kernel_rfl) rfl (by kernel_rfl) (by kernel_rfl)) [1, 2, 3, 7, 16, 18, 20] (L' := [(1, .int .u8 a1), (2, .int .u8 a2), (3, .pointer (some (⟨g2, 0, none⟩ : Addr))), (7, .bool t8), (16, .slice A0_1 a0.Words.length c0_1), (18, .slice A0_2 a0.Bits.length c0_2), (20, .slice A0_3 a0.Names.length c0_3)]) (by kernel_rfl) ?_
 clear hs; intro a hs
 obtain ⟨t14, hx15, H⟩ := bind_some H
 refine go_call hs (op := (Op.call { callee := (Callee.value (Operand.func 19)), args := #[(Operand.tmp 16), (Operand.tmp 18), (Operand.tmp 20)], argTypes := #[22, 32, 33] })) (ty := 26) (dst := some 21) (g := none) (by kernel_rfl) (by kernel_rfl) (by kernel_rfl) (f := 19) (args := #[.slice A0_1 a0.Words.length c0_1, .slice A0_2 a0.Bits.length c0_2, .slice A0_3 a0.Names.length c0_3]) (by kernel_rfl) (rivetref09_Fit.calls A0_1 c0_1 a0.Words A0_2 c0_2 a0.Bits A0_3 c0_3 a0.Names t14 _ (hr0_1.old hw) (hr0_2.old hw) (hr0_3.old hw) hx15) ?_
 rintro e wd22 ⟨Aa16, cc17, Aa18, cc19, Aa20, cc21, rfl, hw23⟩
 refine ⟨_, rfl, ?_⟩
 replace hw := hw.call hw23
 intro a hs1
 replace hs : Slots a 160 [(1, .int .u8 a1), (2, .int .u8 a2), (3, .pointer (some (⟨g2, 0, none⟩ : Addr))), (7, .bool t8), (21, .agg #[.slice Aa16 t14.Words.length cc17, .slice Aa18 t14.Sites.length cc19, .slice Aa20 t14.Syms.length cc21])] := hs1.keep [1, 2, 3, 7, 21] (by kernel_rfl)
 clear hs1
 obtain ⟨g27, wd28, hx29, hw⟩ := x_allocc (P := Tryd.prog) (elem := 26) (ty := 0) (z := .agg #[.slice none 0 0, .slice none 0 0, .slice none 0 0]) (cs := [.slice none 0 0, .slice none 0 0, .slice none 0 0]) hs hw (by kernel_rfl) (by kernel_rfl)
 refine go_run hs (op := (Op.alloc 26)) (ty := 0) (dst := some 8) (g := none) (by kernel_rfl) (by kernel_rfl) (by kernel_rfl) hx29 [1, 2, 3, 7, 8, 21] (L' := [(1, .int .u8 a1), (2, .int .u8 a2), (3, .pointer (some (⟨g2, 0, none⟩ : Addr))), (7, .bool t8), (8, .pointer (some (⟨g27, 0, none⟩ : Addr))), (21, .agg #[.slice Aa16 t14.Words.length cc17, .slice Aa18 t14.Sites.length cc19, .slice Aa20 t14.Syms.length cc21])]) (by kernel_rfl) ?_
 clear hs; intro a hs
 replace hw := St.own_nil hw 37 (eI .u32)
 replace hw := St.own_nil hw 3 (eI .i64)
 replace hw := St.own_nil hw 39 eSapi_Sym
 replace hw : St [] w0 wd28 [own 39 eSapi_Sym none 0 ([] : List Sapi_Sym), own 3 (eI .i64) none 0 ([] : List Int), own 37 (eI .u32) none 0 ([] : List Int), box g27 26 [.slice none ([] : List Int).length 0, .slice none ([] : List Int).length 0, .slice none ([] : List Sapi_Sym).length 0], own 37 (eI .u32) Aa16 cc17 t14.Words, own 3 (eI .i64) Aa18 cc19 t14.Sites, own 39 eSapi_Sym Aa20 cc21 t14.Syms, box g2 35 [.slice A0_1 a0.Words.length c0_1, .slice A0_2 a0.Bits.length c0_2, .slice A0_3 a0.Names.length c0_3]] := hw
 replace hw := hw.up 3
 obtain ⟨wd34, hx35, hw⟩ := x_bput (P := Tryd.prog) (ty := 0) (t := 26) (y := (Operand.tmp 8)) (z := (Operand.tmp 21)) (o := 0) (p := (⟨g27, 0, none⟩ : Addr)) (v := .agg #[.slice Aa16 t14.Words.length cc17, .slice Aa18 t14.Sites.length cc19, .slice Aa20 t14.Syms.length cc21]) (vs := [.slice Aa16 t14.Words.length cc17, .slice Aa18 t14.Sites.length cc19, .slice Aa20 t14.Syms.length cc21]) (cs' := [.slice Aa16 t14.Words.length cc17, .slice Aa18 t14.Sites.length cc19, .slice Aa20 t14.Syms.length cc21]) hs hw (by kernel_rfl) rfl (by kernel_rfl) rfl (by kernel_rfl) (by kernel_rfl) (by simp [Value.oneCell']) rfl
 refine go_unit hs (op := (Op.store 26 (Operand.tmp 8) (Operand.tmp 21))) (ty := 0) (dst := none) (g := none) (by kernel_rfl) (by kernel_rfl) (by kernel_rfl) hx35 [1, 2, 3, 7, 8] (L' := [(1, .int .u8 a1), (2, .int .u8 a2), (3, .pointer (some (⟨g2, 0, none⟩ : Addr))), (7, .bool t8), (8, .pointer (some (⟨g27, 0, none⟩ : Addr)))]) (by kernel_rfl) ?_
 clear hs; intro a hs
 refine go_end (by kernel_rfl) ?_
 refine hK12 _ _ ?_
 refine go_seq_k fun K36 hK36 => ?_
 refine go_region ?_
 refine go_pvs 0 1 [1, 2, 3, 7, 8, 22] hs (L' := [(1, .int .u8 a1), (2, .int .u8 a2), (3, .pointer (some (⟨g2, 0, none⟩ : Addr))), (7, .bool t8), (8, .pointer (some (⟨g27, 0, none⟩ : Addr))), (22, .pointer (some (((⟨g2, 0, none⟩ : Addr) : Addr).add 0)))]) (by kernel_rfl) ?_ rfl
 clear hs; intro a hs
 refine go_run hs (op := (Op.load 22 (Operand.tmp 22))) (ty := 22) (dst := some 23) (g := none) (by kernel_rfl) (by kernel_rfl) (by kernel_rfl) (x_bld (g := g2) (o := 0) (p := ((⟨g2, 0, none⟩ : Addr) : Addr).add 0) (v := .slice A0_1 a0.Words.length c0_1) (hw.up 7) (by kernel_rfl) rfl (by kernel_rfl) (by kernel_rfl)) [1, 2, 3, 7, 8, 23] (L' := [(1, .int .u8 a1), (2, .int .u8 a2), (3, .pointer (some (⟨g2, 0, none⟩ : Addr))), (7, .bool t8), (8, .pointer (some (⟨g27, 0, none⟩ : Addr))), (23, .slice A0_1 a0.Words.length c0_1)]) (by kernel_rfl) ?_
 clear hs; intro a hs
 refine go_pvs 2 3 [1, 2, 3, 7, 8, 23, 24] hs (L' := [(1, .int .u8 a1), (2, .int .u8 a2), (3, .pointer (some (⟨g2, 0, none⟩ : Addr))), (7, .bool t8), (8, .pointer (some (⟨g27, 0, none⟩ : Addr))), (23, .slice A0_1 a0.Words.length c0_1), (24, .pointer (some (((⟨g2, 0, none⟩ : Addr) : Addr).add 1)))]) (by kernel_rfl) ?_ rfl
 clear hs; intro a hs
 refine go_run hs (op := (Op.load 32 (Operand.tmp 24))) (ty := 32) (dst := some 25) (g := none) (by kernel_rfl) (by kernel_rfl) (by kernel_rfl) (x_bld (g := g2) (o := 1) (p := ((⟨g2, 0, none⟩ : Addr) : Addr).add 1) (v := .slice A0_2 a0.Bits.length c0_2) (hw.up 7) (by kernel_rfl) rfl (by kernel_rfl) (by kernel_rfl)) [1, 2, 3, 7, 8, 23, 25] (L' := [(1, .int .u8 a1), (2, .int .u8 a2), (3, .pointer (some (⟨g2, 0, none⟩ : Addr))), (7, .bool t8), (8, .pointer (some (⟨g27, 0, none⟩ : Addr))), (23, .slice A0_1 a0.Words.length c0_1), (25, .slice A0_2 a0.Bits.length c0_2)]) (by kernel_rfl) ?_
 clear hs; intro a hs
 refine go_pvs 4 5 [1, 2, 7, 8, 23, 25, 26] hs (L' := [(1, .int .u8 a1), (2, .int .u8 a2), (7, .bool t8), (8, .pointer (some (⟨g27, 0, none⟩ : Addr))), (23, .slice A0_1 a0.Words.length c0_1), (25, .slice A0_2 a0.Bits.length c0_2), (26, .pointer (some (((⟨g2, 0, none⟩ : Addr) : Addr).add 2)))]) (by kernel_rfl) ?_ rfl
 clear hs; intro a hs
 refine go_run hs (op := (Op.load 33 (Operand.tmp 26))) (ty := 33) (dst := some 27) (g := none) (by kernel_rfl) (by kernel_rfl) (by kernel_rfl) (x_bld (g := g2) (o := 2) (p := ((⟨g2, 0, none⟩ : Addr) : Addr).add 2) (v := .slice A0_3 a0.Names.length c0_3) (hw.up 7) (by kernel_rfl) rfl (by kernel_rfl) (by kernel_rfl)) [1, 2, 7, 8, 23, 25, 27] (L' := [(1, .int .u8 a1), (2, .int .u8 a2), (7, .bool t8), (8, .pointer (some (⟨g27, 0, none⟩ : Addr))), (23, .slice A0_1 a0.Words.length c0_1), (25, .slice A0_2 a0.Bits.length c0_2), (27, .slice A0_3 a0.Names.length c0_3)]) (by kernel_rfl) ?_
 clear hs; intro a hs
 obtain ⟨t38, hx39, H⟩ := bind_some H
 refine go_call hs (op := (Op.call { callee := (Callee.value (Operand.func 19)), args := #[(Operand.tmp 23), (Operand.tmp 25), (Operand.tmp 27)], argTypes := #[22, 32, 33] })) (ty := 26) (dst := some 28) (g := none) (by kernel_rfl) (by kernel_rfl) (by kernel_rfl) (f := 19) (args := #[.slice A0_1 a0.Words.length c0_1, .slice A0_2 a0.Bits.length c0_2, .slice A0_3 a0.Names.length c0_3]) (by kernel_rfl) (rivetref09_Fit.calls A0_1 c0_1 a0.Words A0_2 c0_2 a0.Bits A0_3 c0_3 a0.Names t38 _ (hr0_1.old hw) (hr0_2.old hw) (hr0_3.old hw) hx39) ?_
 rintro e wd46 ⟨Aa40, cc41, Aa42, cc43, Aa44, cc45, rfl, hw47⟩
 refine ⟨_, rfl, ?_⟩
 replace hw := hw.call hw47
 intro a hs1
 replace hs : Slots a 160 [(1, .int .u8 a1), (2, .int .u8 a2), (7, .bool t8), (8, .pointer (some (⟨g27, 0, none⟩ : Addr))), (28, .agg #[.slice Aa40 t38.Words.length cc41, .slice Aa42 t38.Sites.length cc43, .slice Aa44 t38.Syms.length cc45])] := hs1.keep [1, 2, 7, 8, 28] (by kernel_rfl)
 clear hs1
 obtain ⟨g51, wd52, hx53, hw⟩ := x_allocc (P := Tryd.prog) (elem := 26) (ty := 0) (z := .agg #[.slice none 0 0, .slice none 0 0, .slice none 0 0]) (cs := [.slice none 0 0, .slice none 0 0, .slice none 0 0]) hs hw (by kernel_rfl) (by kernel_rfl)
 refine go_run hs (op := (Op.alloc 26)) (ty := 0) (dst := some 9) (g := none) (by kernel_rfl) (by kernel_rfl) (by kernel_rfl) hx53 [1, 2, 7, 8, 9, 28] (L' := [(1, .int .u8 a1), (2, .int .u8 a2), (7, .bool t8), (8, .pointer (some (⟨g27, 0, none⟩ : Addr))), (9, .pointer (some (⟨g51, 0, none⟩ : Addr))), (28, .agg #[.slice Aa40 t38.Words.length cc41, .slice Aa42 t38.Sites.length cc43, .slice Aa44 t38.Syms.length cc45])]) (by kernel_rfl) ?_
 clear hs; intro a hs
 replace hw := St.own_nil hw 37 (eI .u32)
 replace hw := St.own_nil hw 3 (eI .i64)
 replace hw := St.own_nil hw 39 eSapi_Sym
 replace hw : St [] w0 wd52 [own 39 eSapi_Sym none 0 ([] : List Sapi_Sym), own 3 (eI .i64) none 0 ([] : List Int), own 37 (eI .u32) none 0 ([] : List Int), box g51 26 [.slice none ([] : List Int).length 0, .slice none ([] : List Int).length 0, .slice none ([] : List Sapi_Sym).length 0], own 37 (eI .u32) Aa40 cc41 t38.Words, own 3 (eI .i64) Aa42 cc43 t38.Sites, own 39 eSapi_Sym Aa44 cc45 t38.Syms, box g27 26 [.slice Aa16 t14.Words.length cc17, .slice Aa18 t14.Sites.length cc19, .slice Aa20 t14.Syms.length cc21], own 39 eSapi_Sym none 0 ([] : List Sapi_Sym), own 3 (eI .i64) none 0 ([] : List Int), own 37 (eI .u32) none 0 ([] : List Int), own 37 (eI .u32) Aa16 cc17 t14.Words, own 3 (eI .i64) Aa18 cc19 t14.Sites, own 39 eSapi_Sym Aa20 cc21 t14.Syms, box g2 35 [.slice A0_1 a0.Words.length c0_1, .slice A0_2 a0.Bits.length c0_2, .slice A0_3 a0.Names.length c0_3]] := hw
 replace hw := hw.up 3
 obtain ⟨wd58, hx59, hw⟩ := x_bput (P := Tryd.prog) (ty := 0) (t := 26) (y := (Operand.tmp 9)) (z := (Operand.tmp 28)) (o := 0) (p := (⟨g51, 0, none⟩ : Addr)) (v := .agg #[.slice Aa40 t38.Words.length cc41, .slice Aa42 t38.Sites.length cc43, .slice Aa44 t38.Syms.length cc45]) (vs := [.slice Aa40 t38.Words.length cc41, .slice Aa42 t38.Sites.length cc43, .slice Aa44 t38.Syms.length cc45]) (cs' := [.slice Aa40 t38.Words.length cc41, .slice Aa42 t38.Sites.length cc43, .slice Aa44 t38.Syms.length cc45]) hs hw (by kernel_rfl) rfl (by kernel_rfl) rfl (by kernel_rfl) (by kernel_rfl) (by simp [Value.oneCell']) rfl
 refine go_unit hs (op := (Op.store 26 (Operand.tmp 9) (Operand.tmp 28))) (ty := 0) (dst := none) (g := none) (by kernel_rfl) (by kernel_rfl) (by kernel_rfl) hx59 [1, 2, 7, 8, 9] (L' := [(1, .int .u8 a1), (2, .int .u8 a2), (7, .bool t8), (8, .pointer (some (⟨g27, 0, none⟩ : Addr))), (9, .pointer (some (⟨g51, 0, none⟩ : Addr)))]) (by kernel_rfl) ?_
 clear hs; intro a hs
 refine go_end (by kernel_rfl) ?_
 refine hK36 _ _ ?_
 refine go_seq_k fun K60 hK60 => ?_
 refine go_region ?_
 refine go_pvs 0 1 [1, 2, 7, 8, 9, 10] hs (L' := [(1, .int .u8 a1), (2, .int .u8 a2), (7, .bool t8), (8, .pointer (some (⟨g27, 0, none⟩ : Addr))), (9, .pointer (some (⟨g51, 0, none⟩ : Addr))), (10, .bool false)]) (by kernel_rfl) ?_ rfl
 clear hs; intro a hs
 refine go_end (by kernel_rfl) ?_
 refine hK60 _ _ ?_
 refine go_seq_k fun K61 hK61 => ?_
 have hJ5 : ∀ (Aa136 : Option Addr) (cc137 : Nat) (l138 : List Int) (hc139 : ∀ w', Rd w' (eI .i64) Aa42 cc43 t38.Sites → Rd w' (eI .i64) Aa136 cc137 l138) (Aa142 : Option Addr) (cc143 : Nat) (l141 : List Int) (l144 : List Sapi_Sym) (v145 : Bool) (a : Act) (w : World), Slots a 160 [(7, .bool t8), (8, .pointer (some (⟨g27, 0, none⟩ : Addr))), (9, .pointer (some (⟨g51, 0, none⟩ : Addr))), (10, .bool v145)] → St [] w0 w [box g51 26 [.slice Aa142 l141.length cc143, .slice Aa136 l138.length cc137, .slice Aa44 l144.length cc45], own 39 eSapi_Sym none 0 ([] : List Sapi_Sym), own 3 (eI .i64) none 0 ([] : List Int), own 37 (eI .u32) none 0 ([] : List Int), own 37 (eI .u32) Aa142 cc143 l141, own 3 (eI .i64) Aa42 cc43 t38.Sites, own 39 eSapi_Sym Aa44 cc45 l144, box g27 26 [.slice Aa16 t14.Words.length cc17, .slice Aa18 t14.Sites.length cc19, .slice Aa20 t14.Syms.length cc21], own 39 eSapi_Sym none 0 ([] : List Sapi_Sym), own 3 (eI .i64) none 0 ([] : List Int), own 37 (eI .u32) none 0 ([] : List Int), own 37 (eI .u32) Aa16 cc17 t14.Words, own 3 (eI .i64) Aa18 cc19 t14.Sites, own 39 eSapi_Sym Aa20 cc21 t14.Syms, box g2 35 [.slice A0_1 a0.Words.length c0_1, .slice A0_2 a0.Bits.length c0_2, .slice A0_3 a0.Names.length c0_3]] → rivetlaw09_ObjectUnlike.j5 t8 t14 l138 l141 l144 v145 = some r → K61 a w := by
  intro Aa136 cc137 l138 hc139 Aa142 cc143 l141 l144 v145 a w hs hw H
  unfold rivetlaw09_ObjectUnlike.j5 at H
  refine hK61 _ _ ?_
  refine go_seq_k fun K146 hK146 => ?_
  have hJ6 : ∀ (v165 : Bool) (a : Act) (w : World), Slots a 160 [(6, .bool v165)] → St [] w0 w [box g51 26 [.slice Aa142 l141.length cc143, .slice Aa136 l138.length cc137, .slice Aa44 l144.length cc45], own 39 eSapi_Sym none 0 ([] : List Sapi_Sym), own 3 (eI .i64) none 0 ([] : List Int), own 37 (eI .u32) none 0 ([] : List Int), own 37 (eI .u32) Aa142 cc143 l141, own 3 (eI .i64) Aa42 cc43 t38.Sites, own 39 eSapi_Sym Aa44 cc45 l144, box g27 26 [.slice Aa16 t14.Words.length cc17, .slice Aa18 t14.Sites.length cc19, .slice Aa20 t14.Syms.length cc21], own 39 eSapi_Sym none 0 ([] : List Sapi_Sym), own 3 (eI .i64) none 0 ([] : List Int), own 37 (eI .u32) none 0 ([] : List Int), own 37 (eI .u32) Aa16 cc17 t14.Words, own 3 (eI .i64) Aa18 cc19 t14.Sites, own 39 eSapi_Sym Aa20 cc21 t14.Syms, box g2 35 [.slice A0_1 a0.Words.length c0_1, .slice A0_2 a0.Bits.length c0_2, .slice A0_3 a0.Names.length c0_3]] → rivetlaw09_ObjectUnlike.j6 v165 = some r → K146 a w := by
   intro v165 a w hs hw H
   unfold rivetlaw09_ObjectUnlike.j6 at H
   refine hK146 _ _ ?_
   refine wp_ret ?_
   obtain rfl := Option.some.inj H
   refine ret1 (t := 6) (v := .bool v165) hs (by kernel_rfl) (by kernel_rfl) ?_
   exact ⟨rfl, hw.only 0⟩
  refine go_region ?_
  refine go_pvs 0 2 [8, 9, 10, 139] hs (L' := [(8, .pointer (some (⟨g27, 0, none⟩ : Addr))), (9, .pointer (some (⟨g51, 0, none⟩ : Addr))), (10, .bool v145), (139, .bool t8)]) (by kernel_rfl) ?_ rfl
  clear hs; intro a hs
  cases hb147 : t8
  ·replace H := ite_f H (ff hb147)
   rw [hb147] at hs
   refine go_pvs 2 23 [6] hs (L' := [(6, .bool false)]) (by kernel_rfl) ?_ rfl
   clear hs; intro a hs
   refine go_end (by kernel_rfl) ?_
   replace hw := hw.up 14
   replace hw := hw.up 14
   replace hw := hw.up 14
   replace hw := hw.up 14
   replace hw := hw.up 14
   replace hw := hw.up 14
   replace hw := hw.up 14
   replace hw := hw.up 14
   replace hw := hw.up 14
   replace hw := hw.up 14
   replace hw := hw.up 14
   replace hw := hw.up 14
   replace hw := hw.up 14
   replace hw := hw.up 14
   replace hw := hw.up 14
   replace hw := hw.only 15
   exact hJ6 false _ _ (hs.keep [6] (by kernel_rfl)) hw H
  ·replace H := ite_t H hb147
   rw [hb147] at hs
   refine go_run hs (op := (Op.load 26 (Operand.tmp 8))) (ty := 26) (dst := some 140) (g := some (1, true)) (by kernel_rfl) (by kernel_rfl) (by kernel_rfl) (x_blds (g := g27) (o := 0) (p := (⟨g27, 0, none⟩ : Addr)) (vs := [.slice Aa16 t14.Words.length cc17, .slice Aa18 t14.Sites.length cc19, .slice Aa20 t14.Syms.length cc21]) (hw.up 7) (by kernel_rfl) rfl (by kernel_rfl) (by kernel_rfl) (by kernel_rfl)) [8, 9, 10, 139, 140] (L' := [(8, .pointer (some (⟨g27, 0, none⟩ : Addr))), (9, .pointer (some (⟨g51, 0, none⟩ : Addr))), (10, .bool v145), (139, .bool true), (140, .agg #[.slice Aa16 t14.Words.length cc17, .slice Aa18 t14.Sites.length cc19, .slice Aa20 t14.Syms.length cc21])]) (by kernel_rfl) ?_
   clear hs; intro a hs
   refine go_run hs (op := (Op.load 26 (Operand.tmp 9))) (ty := 26) (dst := some 141) (g := some (1, true)) (by kernel_rfl) (by kernel_rfl) (by kernel_rfl) (x_blds (g := g51) (o := 0) (p := (⟨g51, 0, none⟩ : Addr)) (vs := [.slice Aa142 l141.length cc143, .slice Aa136 l138.length cc137, .slice Aa44 l144.length cc45]) (hw.up 0) (by kernel_rfl) rfl (by kernel_rfl) (by kernel_rfl) (by kernel_rfl)) [8, 9, 10, 139, 140, 141] (L' := [(8, .pointer (some (⟨g27, 0, none⟩ : Addr))), (9, .pointer (some (⟨g51, 0, none⟩ : Addr))), (10, .bool v145), (139, .bool true), (140, .agg #[.slice Aa16 t14.Words.length cc17, .slice Aa18 t14.Sites.length cc19, .slice Aa20 t14.Syms.length cc21]), (141, .agg #[.slice Aa142 l141.length cc143, .slice Aa136 l138.length cc137, .slice Aa44 l144.length cc45])]) (by kernel_rfl) ?_
   clear hs; intro a hs
   obtain ⟨t149, hx150, H⟩ := bind_some H
   refine go_call hs (op := (Op.call { callee := (Callee.value (Operand.func 17)), args := #[(Operand.tmp 140), (Operand.tmp 141)], argTypes := #[26, 26] })) (ty := 4) (dst := some 142) (g := some (1, true)) (by kernel_rfl) (by kernel_rfl) (by kernel_rfl) (f := 17) (args := #[.agg #[.slice Aa16 t14.Words.length cc17, .slice Aa18 t14.Sites.length cc19, .slice Aa20 t14.Syms.length cc21], .agg #[.slice Aa142 l141.length cc143, .slice Aa136 l138.length cc137, .slice Aa44 l144.length cc45]]) (by kernel_rfl) (object_Same.calls t14 Aa16 cc17 Aa18 cc19 Aa20 cc21 (⟨l141, l138, l144⟩ : Sapi_Obj) Aa142 cc143 Aa136 cc137 Aa44 cc45 t149 _ (Rd.of_own (hw.up 11)) (Rd.of_own (hw.up 12)) (Rd.of_own (hw.up 13)) (Rd.of_own (hw.up 4)) (hc139 _ (Rd.of_own (hw.up 5))) (Rd.of_own (hw.up 6)) hx150) ?_
   rintro e wd151 ⟨rfl, hw152⟩
   refine ⟨_, rfl, ?_⟩
   replace hw := hw.call hw152
   intro a hs1
   replace hs : Slots a 160 [(8, .pointer (some (⟨g27, 0, none⟩ : Addr))), (9, .pointer (some (⟨g51, 0, none⟩ : Addr))), (10, .bool v145), (139, .bool true), (142, .bool t149)] := hs1.keep [8, 9, 10, 139, 142] (by kernel_rfl)
   clear hs1
   refine go_pvs 5 10 [8, 9, 10, 147] hs (L' := [(8, .pointer (some (⟨g27, 0, none⟩ : Addr))), (9, .pointer (some (⟨g51, 0, none⟩ : Addr))), (10, .bool v145), (147, .bool (t149 == (!v145)))]) (by kernel_rfl) ?_ rfl
   clear hs; intro a hs
   cases hb153 : (t149 == (!v145))
   ·replace H := ite_f H (ff hb153)
    rw [hb153] at hs
    refine go_pvs 10 23 [6] hs (L' := [(6, .bool false)]) (by kernel_rfl) ?_ rfl
    clear hs; intro a hs
    refine go_end (by kernel_rfl) ?_
    replace hw := hw.up 14
    replace hw := hw.up 14
    replace hw := hw.up 14
    replace hw := hw.up 14
    replace hw := hw.up 14
    replace hw := hw.up 14
    replace hw := hw.up 14
    replace hw := hw.up 14
    replace hw := hw.up 14
    replace hw := hw.up 14
    replace hw := hw.up 14
    replace hw := hw.up 14
    replace hw := hw.up 14
    replace hw := hw.up 14
    replace hw := hw.up 14
    replace hw := hw.only 15
    exact hJ6 false _ _ (hs.keep [6] (by kernel_rfl)) hw H
   ·replace H := ite_t H hb153
    rw [hb153] at hs
    refine go_run hs (op := (Op.load 26 (Operand.tmp 9))) (ty := 26) (dst := some 148) (g := some (9, true)) (by kernel_rfl) (by kernel_rfl) (by kernel_rfl) (x_blds (g := g51) (o := 0) (p := (⟨g51, 0, none⟩ : Addr)) (vs := [.slice Aa142 l141.length cc143, .slice Aa136 l138.length cc137, .slice Aa44 l144.length cc45]) (hw.up 0) (by kernel_rfl) rfl (by kernel_rfl) (by kernel_rfl) (by kernel_rfl)) [8, 9, 10, 147, 148] (L' := [(8, .pointer (some (⟨g27, 0, none⟩ : Addr))), (9, .pointer (some (⟨g51, 0, none⟩ : Addr))), (10, .bool v145), (147, .bool true), (148, .agg #[.slice Aa142 l141.length cc143, .slice Aa136 l138.length cc137, .slice Aa44 l144.length cc45])]) (by kernel_rfl) ?_
    clear hs; intro a hs
    refine go_run hs (op := (Op.load 26 (Operand.tmp 8))) (ty := 26) (dst := some 149) (g := some (9, true)) (by kernel_rfl) (by kernel_rfl) (by kernel_rfl) (x_blds (g := g27) (o := 0) (p := (⟨g27, 0, none⟩ : Addr)) (vs := [.slice Aa16 t14.Words.length cc17, .slice Aa18 t14.Sites.length cc19, .slice Aa20 t14.Syms.length cc21]) (hw.up 7) (by kernel_rfl) rfl (by kernel_rfl) (by kernel_rfl) (by kernel_rfl)) [9, 10, 147, 148, 149] (L' := [(9, .pointer (some (⟨g51, 0, none⟩ : Addr))), (10, .bool v145), (147, .bool true), (148, .agg #[.slice Aa142 l141.length cc143, .slice Aa136 l138.length cc137, .slice Aa44 l144.length cc45]), (149, .agg #[.slice Aa16 t14.Words.length cc17, .slice Aa18 t14.Sites.length cc19, .slice Aa20 t14.Syms.length cc21])]) (by kernel_rfl) ?_
    clear hs; intro a hs
    obtain ⟨t155, hx156, H⟩ := bind_some H
    refine go_call hs (op := (Op.call { callee := (Callee.value (Operand.func 17)), args := #[(Operand.tmp 148), (Operand.tmp 149)], argTypes := #[26, 26] })) (ty := 4) (dst := some 150) (g := some (9, true)) (by kernel_rfl) (by kernel_rfl) (by kernel_rfl) (f := 17) (args := #[.agg #[.slice Aa142 l141.length cc143, .slice Aa136 l138.length cc137, .slice Aa44 l144.length cc45], .agg #[.slice Aa16 t14.Words.length cc17, .slice Aa18 t14.Sites.length cc19, .slice Aa20 t14.Syms.length cc21]]) (by kernel_rfl) (object_Same.calls (⟨l141, l138, l144⟩ : Sapi_Obj) Aa142 cc143 Aa136 cc137 Aa44 cc45 t14 Aa16 cc17 Aa18 cc19 Aa20 cc21 t155 _ (Rd.of_own (hw.up 4)) (hc139 _ (Rd.of_own (hw.up 5))) (Rd.of_own (hw.up 6)) (Rd.of_own (hw.up 11)) (Rd.of_own (hw.up 12)) (Rd.of_own (hw.up 13)) hx156) ?_
    rintro e wd157 ⟨rfl, hw158⟩
    refine ⟨_, rfl, ?_⟩
    replace hw := hw.call hw158
    intro a hs1
    replace hs : Slots a 160 [(9, .pointer (some (⟨g51, 0, none⟩ : Addr))), (10, .bool v145), (147, .bool true), (150, .bool t155)] := hs1.keep [9, 10, 147, 150] (by kernel_rfl)
    clear hs1
    refine go_pvs 13 18 [9, 155] hs (L' := [(9, .pointer (some (⟨g51, 0, none⟩ : Addr))), (155, .bool (t155 == (!v145)))]) (by kernel_rfl) ?_ rfl
    clear hs; intro a hs
    cases hb159 : (t155 == (!v145))
    ·replace H := ite_f H (ff hb159)
     rw [hb159] at hs
     refine go_pvs 18 23 [6] hs (L' := [(6, .bool false)]) (by kernel_rfl) ?_ rfl
     clear hs; intro a hs
     refine go_end (by kernel_rfl) ?_
     replace hw := hw.up 14
     replace hw := hw.up 14
     replace hw := hw.up 14
     replace hw := hw.up 14
     replace hw := hw.up 14
     replace hw := hw.up 14
     replace hw := hw.up 14
     replace hw := hw.up 14
     replace hw := hw.up 14
     replace hw := hw.up 14
     replace hw := hw.up 14
     replace hw := hw.up 14
     replace hw := hw.up 14
     replace hw := hw.up 14
     replace hw := hw.up 14
     replace hw := hw.only 15
     exact hJ6 false _ _ (hs.keep [6] (by kernel_rfl)) hw H
    ·replace H := ite_t H hb159
     rw [hb159] at hs
     refine go_run hs (op := (Op.load 26 (Operand.tmp 9))) (ty := 26) (dst := some 156) (g := some (17, true)) (by kernel_rfl) (by kernel_rfl) (by kernel_rfl) (x_blds (g := g51) (o := 0) (p := (⟨g51, 0, none⟩ : Addr)) (vs := [.slice Aa142 l141.length cc143, .slice Aa136 l138.length cc137, .slice Aa44 l144.length cc45]) (hw.up 0) (by kernel_rfl) rfl (by kernel_rfl) (by kernel_rfl) (by kernel_rfl)) [9, 155, 156] (L' := [(9, .pointer (some (⟨g51, 0, none⟩ : Addr))), (155, .bool true), (156, .agg #[.slice Aa142 l141.length cc143, .slice Aa136 l138.length cc137, .slice Aa44 l144.length cc45])]) (by kernel_rfl) ?_
     clear hs; intro a hs
     refine go_run hs (op := (Op.load 26 (Operand.tmp 9))) (ty := 26) (dst := some 157) (g := some (17, true)) (by kernel_rfl) (by kernel_rfl) (by kernel_rfl) (x_blds (g := g51) (o := 0) (p := (⟨g51, 0, none⟩ : Addr)) (vs := [.slice Aa142 l141.length cc143, .slice Aa136 l138.length cc137, .slice Aa44 l144.length cc45]) (hw.up 0) (by kernel_rfl) rfl (by kernel_rfl) (by kernel_rfl) (by kernel_rfl)) [155, 156, 157] (L' := [(155, .bool true), (156, .agg #[.slice Aa142 l141.length cc143, .slice Aa136 l138.length cc137, .slice Aa44 l144.length cc45]), (157, .agg #[.slice Aa142 l141.length cc143, .slice Aa136 l138.length cc137, .slice Aa44 l144.length cc45])]) (by kernel_rfl) ?_
     clear hs; intro a hs
     obtain ⟨t161, hx162, H⟩ := bind_some H
     refine go_call hs (op := (Op.call { callee := (Callee.value (Operand.func 17)), args := #[(Operand.tmp 156), (Operand.tmp 157)], argTypes := #[26, 26] })) (ty := 4) (dst := some 158) (g := some (17, true)) (by kernel_rfl) (by kernel_rfl) (by kernel_rfl) (f := 17) (args := #[.agg #[.slice Aa142 l141.length cc143, .slice Aa136 l138.length cc137, .slice Aa44 l144.length cc45], .agg #[.slice Aa142 l141.length cc143, .slice Aa136 l138.length cc137, .slice Aa44 l144.length cc45]]) (by kernel_rfl) (object_Same.calls (⟨l141, l138, l144⟩ : Sapi_Obj) Aa142 cc143 Aa136 cc137 Aa44 cc45 (⟨l141, l138, l144⟩ : Sapi_Obj) Aa142 cc143 Aa136 cc137 Aa44 cc45 t161 _ (Rd.of_own (hw.up 4)) (hc139 _ (Rd.of_own (hw.up 5))) (Rd.of_own (hw.up 6)) (Rd.of_own (hw.up 4)) (hc139 _ (Rd.of_own (hw.up 5))) (Rd.of_own (hw.up 6)) hx162) ?_
     rintro e wd163 ⟨rfl, hw164⟩
     refine ⟨_, rfl, ?_⟩
     replace hw := hw.call hw164
     intro a hs1
     replace hs : Slots a 160 [(155, .bool true), (158, .bool t161)] := hs1.keep [155, 158] (by kernel_rfl)
     clear hs1
     refine go_pvs 21 23 [6] hs (L' := [(6, .bool t161)]) (by kernel_rfl) ?_ rfl
     clear hs; intro a hs
     refine go_end (by kernel_rfl) ?_
     replace hw := hw.up 14
     replace hw := hw.up 14
     replace hw := hw.up 14
     replace hw := hw.up 14
     replace hw := hw.up 14
     replace hw := hw.up 14
     replace hw := hw.up 14
     replace hw := hw.up 14
     replace hw := hw.up 14
     replace hw := hw.up 14
     replace hw := hw.up 14
     replace hw := hw.up 14
     replace hw := hw.up 14
     replace hw := hw.up 14
     replace hw := hw.up 14
     replace hw := hw.only 15
     exact hJ6 t161 _ _ (hs.keep [6] (by kernel_rfl)) hw H
 refine wp_block ?_
 refine go_seq_k fun K62 hK62 => ?_
 have hJ1 : ∀ (v64 : Bool) (a : Act) (w : World), Slots a 160 [(1, .int .u8 a1), (2, .int .u8 a2), (7, .bool t8), (8, .pointer (some (⟨g27, 0, none⟩ : Addr))), (9, .pointer (some (⟨g51, 0, none⟩ : Addr))), (10, .bool false), (29, .bool v64)] → St [] w0 w [box g51 26 [.slice Aa40 t38.Words.length cc41, .slice Aa42 t38.Sites.length cc43, .slice Aa44 t38.Syms.length cc45], own 39 eSapi_Sym none 0 ([] : List Sapi_Sym), own 3 (eI .i64) none 0 ([] : List Int), own 37 (eI .u32) none 0 ([] : List Int), own 37 (eI .u32) Aa40 cc41 t38.Words, own 3 (eI .i64) Aa42 cc43 t38.Sites, own 39 eSapi_Sym Aa44 cc45 t38.Syms, box g27 26 [.slice Aa16 t14.Words.length cc17, .slice Aa18 t14.Sites.length cc19, .slice Aa20 t14.Syms.length cc21], own 39 eSapi_Sym none 0 ([] : List Sapi_Sym), own 3 (eI .i64) none 0 ([] : List Int), own 37 (eI .u32) none 0 ([] : List Int), own 37 (eI .u32) Aa16 cc17 t14.Words, own 3 (eI .i64) Aa18 cc19 t14.Sites, own 39 eSapi_Sym Aa20 cc21 t14.Syms, box g2 35 [.slice A0_1 a0.Words.length c0_1, .slice A0_2 a0.Bits.length c0_2, .slice A0_3 a0.Names.length c0_3]] → rivetlaw09_ObjectUnlike.j1 t38 a2 t8 t14 a1 v64 = some r → K62 a w := by
  intro v64 a w hs hw H
  unfold rivetlaw09_ObjectUnlike.j1 at H
  refine hK62 _ _ ?_
  refine go_cond hs v64 (by kernel_rfl) (fun hc => ?_) (fun hc => ?_)
  ·replace H := ite_t H hc
   have hb65 := hc
   rw [hb65] at hs
   refine go_seq_k fun K66 hK66 => ?_
   refine go_region ?_
   refine go_pvs 0 3 [7, 8, 9, 40, 41] hs (L' := [(7, .bool t8), (8, .pointer (some (⟨g27, 0, none⟩ : Addr))), (9, .pointer (some (⟨g51, 0, none⟩ : Addr))), (40, .int .i64 (w64 a2)), (41, .pointer (some (((⟨g51, 0, none⟩ : Addr) : Addr).add 0)))]) (by kernel_rfl) ?_ rfl
   clear hs; intro a hs
   refine go_run hs (op := (Op.load 22 (Operand.tmp 41))) (ty := 22) (dst := some 42) (g := none) (by kernel_rfl) (by kernel_rfl) (by kernel_rfl) (x_bld (g := g51) (o := 0) (p := ((⟨g51, 0, none⟩ : Addr) : Addr).add 0) (v := .slice Aa40 t38.Words.length cc41) (hw.up 0) (by kernel_rfl) rfl (by kernel_rfl) (by kernel_rfl)) [7, 8, 9, 40, 42] (L' := [(7, .bool t8), (8, .pointer (some (⟨g27, 0, none⟩ : Addr))), (9, .pointer (some (⟨g51, 0, none⟩ : Addr))), (40, .int .i64 (w64 a2)), (42, .slice Aa40 t38.Words.length cc41)]) (by kernel_rfl) ?_
   clear hs; intro a hs
   refine go_pvs 4 5 [7, 8, 9, 40, 43] hs (L' := [(7, .bool t8), (8, .pointer (some (⟨g27, 0, none⟩ : Addr))), (9, .pointer (some (⟨g51, 0, none⟩ : Addr))), (40, .int .i64 (w64 a2)), (43, .int .i64 (t38.Words.length : Int))]) (by kernel_rfl) ?_ rfl
   clear hs; intro a hs
   obtain ⟨hp67, H⟩ := ite_only H
   refine go_run hs (op := (Op.binOp BinOp.rem 3 (Operand.tmp 40) (Operand.tmp 43) 3)) (ty := 3) (dst := some 44) (g := none) (by kernel_rfl) (by kernel_rfl) (by kernel_rfl) (x_rem (k := .i64) (m := w64 a2) (n := (t38.Words.length : Int)) (by kernel_rfl) (by kernel_rfl) hp67) [7, 8, 9, 44] (L' := [(7, .bool t8), (8, .pointer (some (⟨g27, 0, none⟩ : Addr))), (9, .pointer (some (⟨g51, 0, none⟩ : Addr))), (44, .int .i64 ((w64 a2).tmod (t38.Words.length : Int)))]) (by kernel_rfl) ?_
   clear hs; intro a hs
   refine go_pvs 6 7 [7, 8, 9, 11] hs (L' := [(7, .bool t8), (8, .pointer (some (⟨g27, 0, none⟩ : Addr))), (9, .pointer (some (⟨g51, 0, none⟩ : Addr))), (11, .int .i64 ((w64 a2).tmod (t38.Words.length : Int)))]) (by kernel_rfl) ?_ rfl
   clear hs; intro a hs
   obtain ⟨y68, hy68, H⟩ := nm_some H
   replace hs : Slots a 160 [(7, .bool t8), (8, .pointer (some (⟨g27, 0, none⟩ : Addr))), (9, .pointer (some (⟨g51, 0, none⟩ : Addr))), (11, .int .i64 y68)] := by rw [hy68]; exact hs
   refine go_end (by kernel_rfl) ?_
   refine hK66 _ _ ?_
   refine go_seq_k fun K69 hK69 => ?_
   refine d_region [10] [(true, [0, 1, 2, 3, 4, 5, 6, 7, 8, 9], 10)] [] (by kernel_rfl) (by kernel_rfl) (fun c a d v w h => by cases d <;> exact h) ?_
   refine d_seg ?_
   refine c_pvs [0] [1, 2, 3, 4, 5, 6, 7, 8, 9] [7, 8, 9, 11, 45] hs (L' := [(7, .bool t8), (8, .pointer (some (⟨g27, 0, none⟩ : Addr))), (9, .pointer (some (⟨g51, 0, none⟩ : Addr))), (11, .int .i64 y68), (45, .pointer (some (((⟨g51, 0, none⟩ : Addr) : Addr).add 0)))]) (by kernel_rfl) ?_ (by kernel_rfl)
   clear hs; intro a hs
   refine d_run hs (op := (Op.load 22 (Operand.tmp 45))) (ty := 22) (dst := some 46) (g := none) (by kernel_rfl) (by kernel_rfl) (by kernel_rfl) (fun wx hbx => (x_bldD (g := g51) (o := 0) (p := ((⟨g51, 0, none⟩ : Addr) : Addr).add 0) (v := .slice Aa40 t38.Words.length cc41) (hw.up 0) hbx (by kernel_rfl) rfl (by kernel_rfl) (by kernel_rfl))) [7, 8, 9, 11, 46] (L' := [(7, .bool t8), (8, .pointer (some (⟨g27, 0, none⟩ : Addr))), (9, .pointer (some (⟨g51, 0, none⟩ : Addr))), (11, .int .i64 y68), (46, .slice Aa40 t38.Words.length cc41)]) (by kernel_rfl) ?_
   clear hs; intro a hs
   refine c_pvs [2, 3] [4, 5, 6, 7, 8, 9] [7, 8, 9, 11, 46, 47, 48] hs (L' := [(7, .bool t8), (8, .pointer (some (⟨g27, 0, none⟩ : Addr))), (9, .pointer (some (⟨g51, 0, none⟩ : Addr))), (11, .int .i64 y68), (46, .slice Aa40 t38.Words.length cc41), (47, .int .i64 y68), (48, .pointer (some (((⟨g51, 0, none⟩ : Addr) : Addr).add 0)))]) (by kernel_rfl) ?_ (by kernel_rfl)
   clear hs; intro a hs
   refine d_run hs (op := (Op.load 22 (Operand.tmp 48))) (ty := 22) (dst := some 49) (g := none) (by kernel_rfl) (by kernel_rfl) (by kernel_rfl) (fun wx hbx => (x_bldD (g := g51) (o := 0) (p := ((⟨g51, 0, none⟩ : Addr) : Addr).add 0) (v := .slice Aa40 t38.Words.length cc41) (hw.up 0) hbx (by kernel_rfl) rfl (by kernel_rfl) (by kernel_rfl))) [7, 8, 9, 11, 46, 47, 49] (L' := [(7, .bool t8), (8, .pointer (some (⟨g27, 0, none⟩ : Addr))), (9, .pointer (some (⟨g51, 0, none⟩ : Addr))), (11, .int .i64 y68), (46, .slice Aa40 t38.Words.length cc41), (47, .int .i64 y68), (49, .slice Aa40 t38.Words.length cc41)]) (by kernel_rfl) ?_
   clear hs; intro a hs
   refine c_pvs [5] [6, 7, 8, 9] [7, 8, 9, 46, 47, 49, 50] hs (L' := [(7, .bool t8), (8, .pointer (some (⟨g27, 0, none⟩ : Addr))), (9, .pointer (some (⟨g51, 0, none⟩ : Addr))), (46, .slice Aa40 t38.Words.length cc41), (47, .int .i64 y68), (49, .slice Aa40 t38.Words.length cc41), (50, .int .i64 y68)]) (by kernel_rfl) ?_ (by kernel_rfl)
   clear hs; intro a hs
   obtain ⟨hp70, H⟩ := ite_only H
   obtain ⟨ad71, rfl⟩ := (Rd.of_own (hw.up 4)).some hp70.1 hp70.2
   refine d_run hs (op := (Op.indexAddr 22 (Operand.tmp 49) (Operand.tmp 50))) (ty := 0) (dst := some 51) (g := none) (by kernel_rfl) (by kernel_rfl) (by kernel_rfl) (fun wx hbx => (x_idx (T := 37) (sz := 1) (a := ad71) (n := t38.Words.length) (cap := cc41) (k := .i64) (i := y68) (by kernel_rfl) (by kernel_rfl) (by kernel_rfl) (by kernel_rfl) hp70.1 hp70.2)) [7, 8, 9, 46, 47, 51] (L' := [(7, .bool t8), (8, .pointer (some (⟨g27, 0, none⟩ : Addr))), (9, .pointer (some (⟨g51, 0, none⟩ : Addr))), (46, .slice (some ad71) t38.Words.length cc41), (47, .int .i64 y68), (51, .pointer (some (ad71.add (y68.toNat * 1))))]) (by kernel_rfl) ?_
   clear hs; intro a hs
   refine d_run hs (op := (Op.load 37 (Operand.tmp 51))) (ty := 37) (dst := some 52) (g := none) (by kernel_rfl) (by kernel_rfl) (by kernel_rfl) (fun wx hbx => (x_ld (E := (eI .u32)) (off := 0) (p := ad71.add (y68.toNat * 1)) (v := .int .u32 (ix (eI .u32).d t38.Words y68)) (Rd.bn (Rd.of_own (hw.up 4)) hbx) hp70.1 hp70.2 (by kernel_rfl) rfl (by kernel_rfl) (by kernel_rfl))) [7, 8, 9, 46, 47, 52] (L' := [(7, .bool t8), (8, .pointer (some (⟨g27, 0, none⟩ : Addr))), (9, .pointer (some (⟨g51, 0, none⟩ : Addr))), (46, .slice (some ad71) t38.Words.length cc41), (47, .int .i64 y68), (52, .int .u32 (ix (eI .u32).d t38.Words y68))]) (by kernel_rfl) ?_
   clear hs; intro a hs
   refine c_pvs [8] [9] [7, 8, 9, 46, 47, 53] hs (L' := [(7, .bool t8), (8, .pointer (some (⟨g27, 0, none⟩ : Addr))), (9, .pointer (some (⟨g51, 0, none⟩ : Addr))), (46, .slice (some ad71) t38.Words.length cc41), (47, .int .i64 y68), (53, .int .u32 (wu32 ((ix (eI .u32).d t38.Words y68) + 1)))]) (by kernel_rfl) ?_ (by kernel_rfl)
   clear hs; intro a hs
   obtain ⟨hp72, H⟩ := ite_only H
   refine d_run hs (op := (Op.indexAddr 22 (Operand.tmp 46) (Operand.tmp 47))) (ty := 0) (dst := some 54) (g := none) (by kernel_rfl) (by kernel_rfl) (by kernel_rfl) (fun wx hbx => (x_idx (T := 37) (sz := 1) (a := ad71) (n := t38.Words.length) (cap := cc41) (k := .i64) (i := y68) (by kernel_rfl) (by kernel_rfl) (by kernel_rfl) (by kernel_rfl) hp72.1 hp72.2)) [7, 8, 9, 53, 54] (L' := [(7, .bool t8), (8, .pointer (some (⟨g27, 0, none⟩ : Addr))), (9, .pointer (some (⟨g51, 0, none⟩ : Addr))), (53, .int .u32 (wu32 ((ix (eI .u32).d t38.Words y68) + 1))), (54, .pointer (some (ad71.add (y68.toNat * 1))))]) (by kernel_rfl) ?_
   clear hs; intro a hs
   refine c_end ?_
   intro wq hbq
   replace hw := hw.behind hbq
   replace hw := hw.up 4
   obtain ⟨wd73, hx74, hw⟩ := x_put (P := Tryd.prog) (ty := 0) (t := 37) (x := (Operand.tmp 54)) (y := (Operand.tmp 53)) (off := 0) (p := ad71.add (y68.toNat * 1)) (v := .int .u32 (wu32 ((ix (eI .u32).d t38.Words y68) + 1))) (vs := [.int .u32 (wu32 ((ix (eI .u32).d t38.Words y68) + 1))]) (i := y68) (e' := (wu32 ((ix (eI .u32).d t38.Words y68) + 1) : Int)) hs hw rfl hp72.1 hp72.2 (by kernel_rfl) rfl (by kernel_rfl) rfl (by kernel_rfl) (Nat.le_of_ble_eq_true rfl) (by simp [Value.oneCell']) (by kernel_rfl)
   refine p_unit hs (op := (Op.store 37 (Operand.tmp 54) (Operand.tmp 53))) (ty := 0) (dst := none) (g := none) (by kernel_rfl) (by kernel_rfl) (by kernel_rfl) hx74 [7, 8, 9] (L' := [(7, .bool t8), (8, .pointer (some (⟨g27, 0, none⟩ : Addr))), (9, .pointer (some (⟨g51, 0, none⟩ : Addr)))]) (by kernel_rfl) ?_
   clear hs; intro a hs
   replace hw : St [] w0 wd73 [own 37 (eI .u32) (some ad71) cc41 (t38.Words.set (y68 : Int).toNat (wu32 ((ix (eI .u32).d t38.Words y68) + 1))), box g51 26 [.slice (some ad71) (t38.Words.set (y68 : Int).toNat (wu32 ((ix (eI .u32).d t38.Words y68) + 1))).length cc41, .slice Aa42 t38.Sites.length cc43, .slice Aa44 t38.Syms.length cc45], own 39 eSapi_Sym none 0 ([] : List Sapi_Sym), own 3 (eI .i64) none 0 ([] : List Int), own 37 (eI .u32) none 0 ([] : List Int), own 3 (eI .i64) Aa42 cc43 t38.Sites, own 39 eSapi_Sym Aa44 cc45 t38.Syms, box g27 26 [.slice Aa16 t14.Words.length cc17, .slice Aa18 t14.Sites.length cc19, .slice Aa20 t14.Syms.length cc21], own 39 eSapi_Sym none 0 ([] : List Sapi_Sym), own 3 (eI .i64) none 0 ([] : List Int), own 37 (eI .u32) none 0 ([] : List Int), own 37 (eI .u32) Aa16 cc17 t14.Words, own 3 (eI .i64) Aa18 cc19 t14.Sites, own 39 eSapi_Sym Aa20 cc21 t14.Syms, box g2 35 [.slice A0_1 a0.Words.length c0_1, .slice A0_2 a0.Bits.length c0_2, .slice A0_3 a0.Names.length c0_3]] := by rw [show (t38.Words.set (y68 : Int).toNat (wu32 ((ix (eI .u32).d t38.Words y68) + 1))).length = (t38.Words).length from List.length_set]; exact hw
   refine c_done ⟨.inl (by kernel_rfl), ?_⟩
   clear hbq
   refine d_last ?_
   refine c_end ?_
   intro wq hbq
   replace hw := hw.behind hbq
   refine hK69 _ _ ?_
   refine go_region ?_
   refine go_pvs 0 1 [7, 8, 9, 10] hs (L' := [(7, .bool t8), (8, .pointer (some (⟨g27, 0, none⟩ : Addr))), (9, .pointer (some (⟨g51, 0, none⟩ : Addr))), (10, .bool true)]) (by kernel_rfl) ?_ rfl
   clear hs; intro a hs
   refine go_end (by kernel_rfl) ?_
   refine ib_norm ?_
   replace hw := hw.up 14
   replace hw := hw.up 14
   replace hw := hw.up 14
   replace hw := hw.up 14
   replace hw := hw.up 14
   replace hw := hw.up 14
   replace hw := hw.up 14
   replace hw := hw.up 14
   replace hw := hw.up 14
   replace hw := hw.up 14
   replace hw := hw.up 10
   replace hw := hw.up 14
   replace hw := hw.up 14
   replace hw := hw.up 14
   replace hw := hw.up 14
   replace hw := hw.only 15
   exact hJ5 Aa42 cc43 t38.Sites (fun _ h => h) (some ad71) cc41 (t38.Words.set (y68 : Int).toNat (wu32 ((ix (eI .u32).d t38.Words y68) + 1))) t38.Syms true _ _ (hs.keep [7, 8, 9, 10] (by kernel_rfl)) hw H
  ·replace H := ite_f H (ff hc)
   have hb75 := hc
   rw [hb75] at hs
   refine go_seq_k fun K76 hK76 => ?_
   have hJ2 : ∀ (v78 : Bool) (a : Act) (w : World), Slots a 160 [(1, .int .u8 a1), (2, .int .u8 a2), (7, .bool t8), (8, .pointer (some (⟨g27, 0, none⟩ : Addr))), (9, .pointer (some (⟨g51, 0, none⟩ : Addr))), (10, .bool false), (55, .bool v78)] → St [] w0 w [box g51 26 [.slice Aa40 t38.Words.length cc41, .slice Aa42 t38.Sites.length cc43, .slice Aa44 t38.Syms.length cc45], own 39 eSapi_Sym none 0 ([] : List Sapi_Sym), own 3 (eI .i64) none 0 ([] : List Int), own 37 (eI .u32) none 0 ([] : List Int), own 37 (eI .u32) Aa40 cc41 t38.Words, own 3 (eI .i64) Aa42 cc43 t38.Sites, own 39 eSapi_Sym Aa44 cc45 t38.Syms, box g27 26 [.slice Aa16 t14.Words.length cc17, .slice Aa18 t14.Sites.length cc19, .slice Aa20 t14.Syms.length cc21], own 39 eSapi_Sym none 0 ([] : List Sapi_Sym), own 3 (eI .i64) none 0 ([] : List Int), own 37 (eI .u32) none 0 ([] : List Int), own 37 (eI .u32) Aa16 cc17 t14.Words, own 3 (eI .i64) Aa18 cc19 t14.Sites, own 39 eSapi_Sym Aa20 cc21 t14.Syms, box g2 35 [.slice A0_1 a0.Words.length c0_1, .slice A0_2 a0.Bits.length c0_2, .slice A0_3 a0.Names.length c0_3]] → rivetlaw09_ObjectUnlike.j2 t38 t8 t14 a1 a2 v78 = some r → K76 a w := by
    intro v78 a w hs hw H
    unfold rivetlaw09_ObjectUnlike.j2 at H
    refine hK76 _ _ ?_
    refine go_cond hs v78 (by kernel_rfl) (fun hc => ?_) (fun hc => ?_)
    ·replace H := ite_t H hc
     have hb79 := hc
     rw [hb79] at hs
     refine go_seq_k fun K80 hK80 => ?_
     refine go_region ?_
     refine go_pvs 0 1 [7, 8, 9, 65] hs (L' := [(7, .bool t8), (8, .pointer (some (⟨g27, 0, none⟩ : Addr))), (9, .pointer (some (⟨g51, 0, none⟩ : Addr))), (65, .pointer (some (((⟨g51, 0, none⟩ : Addr) : Addr).add 1)))]) (by kernel_rfl) ?_ rfl
     clear hs; intro a hs
     refine go_run hs (op := (Op.load 23 (Operand.tmp 65))) (ty := 23) (dst := some 66) (g := none) (by kernel_rfl) (by kernel_rfl) (by kernel_rfl) (x_bld (g := g51) (o := 1) (p := ((⟨g51, 0, none⟩ : Addr) : Addr).add 1) (v := .slice Aa42 t38.Sites.length cc43) (hw.up 0) (by kernel_rfl) rfl (by kernel_rfl) (by kernel_rfl)) [7, 8, 9, 66] (L' := [(7, .bool t8), (8, .pointer (some (⟨g27, 0, none⟩ : Addr))), (9, .pointer (some (⟨g51, 0, none⟩ : Addr))), (66, .slice Aa42 t38.Sites.length cc43)]) (by kernel_rfl) ?_
     clear hs; intro a hs
     refine go_pvs 2 3 [7, 8, 9, 66, 67] hs (L' := [(7, .bool t8), (8, .pointer (some (⟨g27, 0, none⟩ : Addr))), (9, .pointer (some (⟨g51, 0, none⟩ : Addr))), (66, .slice Aa42 t38.Sites.length cc43), (67, .pointer (some (((⟨g51, 0, none⟩ : Addr) : Addr).add 1)))]) (by kernel_rfl) ?_ rfl
     clear hs; intro a hs
     refine go_run hs (op := (Op.load 23 (Operand.tmp 67))) (ty := 23) (dst := some 68) (g := none) (by kernel_rfl) (by kernel_rfl) (by kernel_rfl) (x_bld (g := g51) (o := 1) (p := ((⟨g51, 0, none⟩ : Addr) : Addr).add 1) (v := .slice Aa42 t38.Sites.length cc43) (hw.up 0) (by kernel_rfl) rfl (by kernel_rfl) (by kernel_rfl)) [7, 8, 9, 66, 68] (L' := [(7, .bool t8), (8, .pointer (some (⟨g27, 0, none⟩ : Addr))), (9, .pointer (some (⟨g51, 0, none⟩ : Addr))), (66, .slice Aa42 t38.Sites.length cc43), (68, .slice Aa42 t38.Sites.length cc43)]) (by kernel_rfl) ?_
     clear hs; intro a hs
     refine go_pvs 4 6 [7, 8, 9, 66, 70] hs (L' := [(7, .bool t8), (8, .pointer (some (⟨g27, 0, none⟩ : Addr))), (9, .pointer (some (⟨g51, 0, none⟩ : Addr))), (66, .slice Aa42 t38.Sites.length cc43), (70, .int .i64 (w64 ((t38.Sites.length : Int) - 1)))]) (by kernel_rfl) ?_ rfl
     clear hs; intro a hs
     obtain ⟨hp81, H⟩ := ite_only H
     obtain ⟨Aa82, cc83, hx84, hc85⟩ := c_hi (P := Tryd.prog) (ty := 23) (E := (eI .i64)) (T := 3) (t := 23) (x := (Operand.tmp 66)) (y := (Operand.tmp 70)) (k := .i64) hs (by kernel_rfl) (by kernel_rfl) (Rd.of_own (hw.up 5)) (by kernel_rfl) (by kernel_rfl) hp81.1 hp81.2
     refine go_run hs (op := (Op.slice 23 (Operand.tmp 66) none (some (Operand.tmp 70)) none)) (ty := 23) (dst := some 71) (g := none) (by kernel_rfl) (by kernel_rfl) (by kernel_rfl) hx84 [7, 8, 9, 71] (L' := [(7, .bool t8), (8, .pointer (some (⟨g27, 0, none⟩ : Addr))), (9, .pointer (some (⟨g51, 0, none⟩ : Addr))), (71, .slice Aa82 (t38.Sites.take (w64 ((t38.Sites.length : Int) - 1) : Int).toNat).length cc83)]) (by kernel_rfl) ?_
     clear hs; intro a hs
     refine go_pvs 7 8 [7, 8, 9, 71, 72] hs (L' := [(7, .bool t8), (8, .pointer (some (⟨g27, 0, none⟩ : Addr))), (9, .pointer (some (⟨g51, 0, none⟩ : Addr))), (71, .slice Aa82 (t38.Sites.take (w64 ((t38.Sites.length : Int) - 1) : Int).toNat).length cc83), (72, .pointer (some (((⟨g51, 0, none⟩ : Addr) : Addr).add 1)))]) (by kernel_rfl) ?_ rfl
     clear hs; intro a hs
     obtain ⟨wd87, hx88, hw⟩ := x_bput (P := Tryd.prog) (ty := 0) (t := 23) (y := (Operand.tmp 72)) (z := (Operand.tmp 71)) (o := 1) (p := ((⟨g51, 0, none⟩ : Addr) : Addr).add 1) (v := .slice Aa82 (t38.Sites.take (w64 ((t38.Sites.length : Int) - 1) : Int).toNat).length cc83) (vs := [.slice Aa82 (t38.Sites.take (w64 ((t38.Sites.length : Int) - 1) : Int).toNat).length cc83]) (cs' := [.slice Aa40 t38.Words.length cc41, .slice Aa82 (t38.Sites.take (w64 ((t38.Sites.length : Int) - 1) : Int).toNat).length cc83, .slice Aa44 t38.Syms.length cc45]) hs hw (by kernel_rfl) rfl (by kernel_rfl) rfl (by kernel_rfl) (by kernel_rfl) (by simp [Value.oneCell']) rfl
     refine go_unit hs (op := (Op.store 23 (Operand.tmp 72) (Operand.tmp 71))) (ty := 0) (dst := none) (g := none) (by kernel_rfl) (by kernel_rfl) (by kernel_rfl) hx88 [7, 8, 9] (L' := [(7, .bool t8), (8, .pointer (some (⟨g27, 0, none⟩ : Addr))), (9, .pointer (some (⟨g51, 0, none⟩ : Addr)))]) (by kernel_rfl) ?_
     clear hs; intro a hs
     refine go_end (by kernel_rfl) ?_
     refine hK80 _ _ ?_
     refine go_region ?_
     refine go_pvs 0 1 [7, 8, 9, 10] hs (L' := [(7, .bool t8), (8, .pointer (some (⟨g27, 0, none⟩ : Addr))), (9, .pointer (some (⟨g51, 0, none⟩ : Addr))), (10, .bool true)]) (by kernel_rfl) ?_ rfl
     clear hs; intro a hs
     refine go_end (by kernel_rfl) ?_
     refine ib_norm ?_
     replace hw := hw.up 14
     replace hw := hw.up 14
     replace hw := hw.up 14
     replace hw := hw.up 14
     replace hw := hw.up 14
     replace hw := hw.up 14
     replace hw := hw.up 14
     replace hw := hw.up 14
     replace hw := hw.up 14
     replace hw := hw.up 14
     replace hw := hw.up 14
     replace hw := hw.up 14
     replace hw := hw.up 14
     replace hw := hw.up 14
     replace hw := hw.up 14
     replace hw := hw.only 15
     exact hJ5 Aa82 cc83 (t38.Sites.take (w64 ((t38.Sites.length : Int) - 1) : Int).toNat) hc85 Aa40 cc41 t38.Words t38.Syms true _ _ (hs.keep [7, 8, 9, 10] (by kernel_rfl)) hw H
    ·replace H := ite_f H (ff hc)
     have hb89 := hc
     rw [hb89] at hs
     refine go_seq_k fun K90 hK90 => ?_
     have hJ3 : ∀ (v92 : Bool) (a : Act) (w : World), Slots a 160 [(1, .int .u8 a1), (2, .int .u8 a2), (7, .bool t8), (8, .pointer (some (⟨g27, 0, none⟩ : Addr))), (9, .pointer (some (⟨g51, 0, none⟩ : Addr))), (10, .bool false), (73, .bool v92)] → St [] w0 w [box g51 26 [.slice Aa40 t38.Words.length cc41, .slice Aa42 t38.Sites.length cc43, .slice Aa44 t38.Syms.length cc45], own 39 eSapi_Sym none 0 ([] : List Sapi_Sym), own 3 (eI .i64) none 0 ([] : List Int), own 37 (eI .u32) none 0 ([] : List Int), own 37 (eI .u32) Aa40 cc41 t38.Words, own 3 (eI .i64) Aa42 cc43 t38.Sites, own 39 eSapi_Sym Aa44 cc45 t38.Syms, box g27 26 [.slice Aa16 t14.Words.length cc17, .slice Aa18 t14.Sites.length cc19, .slice Aa20 t14.Syms.length cc21], own 39 eSapi_Sym none 0 ([] : List Sapi_Sym), own 3 (eI .i64) none 0 ([] : List Int), own 37 (eI .u32) none 0 ([] : List Int), own 37 (eI .u32) Aa16 cc17 t14.Words, own 3 (eI .i64) Aa18 cc19 t14.Sites, own 39 eSapi_Sym Aa20 cc21 t14.Syms, box g2 35 [.slice A0_1 a0.Words.length c0_1, .slice A0_2 a0.Bits.length c0_2, .slice A0_3 a0.Names.length c0_3]] → rivetlaw09_ObjectUnlike.j3 t38 a2 t8 t14 a1 v92 = some r → K90 a w := by
      intro v92 a w hs hw H
      unfold rivetlaw09_ObjectUnlike.j3 at H
      refine hK90 _ _ ?_
      refine go_cond hs v92 (by kernel_rfl) (fun hc => ?_) (fun hc => ?_)
      ·replace H := ite_t H hc
       have hb93 := hc
       rw [hb93] at hs
       refine go_seq_k fun K94 hK94 => ?_
       refine go_region ?_
       refine go_pvs 0 3 [7, 8, 9, 84, 85] hs (L' := [(7, .bool t8), (8, .pointer (some (⟨g27, 0, none⟩ : Addr))), (9, .pointer (some (⟨g51, 0, none⟩ : Addr))), (84, .int .i64 (w64 a2)), (85, .pointer (some (((⟨g51, 0, none⟩ : Addr) : Addr).add 2)))]) (by kernel_rfl) ?_ rfl
       clear hs; intro a hs
       refine go_run hs (op := (Op.load 24 (Operand.tmp 85))) (ty := 24) (dst := some 86) (g := none) (by kernel_rfl) (by kernel_rfl) (by kernel_rfl) (x_bld (g := g51) (o := 2) (p := ((⟨g51, 0, none⟩ : Addr) : Addr).add 2) (v := .slice Aa44 t38.Syms.length cc45) (hw.up 0) (by kernel_rfl) rfl (by kernel_rfl) (by kernel_rfl)) [7, 8, 9, 84, 86] (L' := [(7, .bool t8), (8, .pointer (some (⟨g27, 0, none⟩ : Addr))), (9, .pointer (some (⟨g51, 0, none⟩ : Addr))), (84, .int .i64 (w64 a2)), (86, .slice Aa44 t38.Syms.length cc45)]) (by kernel_rfl) ?_
       clear hs; intro a hs
       refine go_pvs 4 5 [7, 8, 9, 84, 87] hs (L' := [(7, .bool t8), (8, .pointer (some (⟨g27, 0, none⟩ : Addr))), (9, .pointer (some (⟨g51, 0, none⟩ : Addr))), (84, .int .i64 (w64 a2)), (87, .int .i64 (t38.Syms.length : Int))]) (by kernel_rfl) ?_ rfl
       clear hs; intro a hs
       obtain ⟨hp95, H⟩ := ite_only H
       refine go_run hs (op := (Op.binOp BinOp.rem 3 (Operand.tmp 84) (Operand.tmp 87) 3)) (ty := 3) (dst := some 88) (g := none) (by kernel_rfl) (by kernel_rfl) (by kernel_rfl) (x_rem (k := .i64) (m := w64 a2) (n := (t38.Syms.length : Int)) (by kernel_rfl) (by kernel_rfl) hp95) [7, 8, 9, 88] (L' := [(7, .bool t8), (8, .pointer (some (⟨g27, 0, none⟩ : Addr))), (9, .pointer (some (⟨g51, 0, none⟩ : Addr))), (88, .int .i64 ((w64 a2).tmod (t38.Syms.length : Int)))]) (by kernel_rfl) ?_
       clear hs; intro a hs
       refine go_pvs 6 7 [7, 8, 9, 12] hs (L' := [(7, .bool t8), (8, .pointer (some (⟨g27, 0, none⟩ : Addr))), (9, .pointer (some (⟨g51, 0, none⟩ : Addr))), (12, .int .i64 ((w64 a2).tmod (t38.Syms.length : Int)))]) (by kernel_rfl) ?_ rfl
       clear hs; intro a hs
       obtain ⟨y96, hy96, H⟩ := nm_some H
       replace hs : Slots a 160 [(7, .bool t8), (8, .pointer (some (⟨g27, 0, none⟩ : Addr))), (9, .pointer (some (⟨g51, 0, none⟩ : Addr))), (12, .int .i64 y96)] := by rw [hy96]; exact hs
       refine go_end (by kernel_rfl) ?_
       refine hK94 _ _ ?_
       refine go_seq_k fun K97 hK97 => ?_
       refine d_region [12] [(true, [0, 1, 2, 3, 4, 5, 6, 7, 8, 9, 10, 11], 12)] [] (by kernel_rfl) (by kernel_rfl) (fun c a d v w h => by cases d <;> exact h) ?_
       refine d_seg ?_
       refine c_pvs [0] [1, 2, 3, 4, 5, 6, 7, 8, 9, 10, 11] [7, 8, 9, 12, 89] hs (L' := [(7, .bool t8), (8, .pointer (some (⟨g27, 0, none⟩ : Addr))), (9, .pointer (some (⟨g51, 0, none⟩ : Addr))), (12, .int .i64 y96), (89, .pointer (some (((⟨g51, 0, none⟩ : Addr) : Addr).add 2)))]) (by kernel_rfl) ?_ (by kernel_rfl)
       clear hs; intro a hs
       refine d_run hs (op := (Op.load 24 (Operand.tmp 89))) (ty := 24) (dst := some 90) (g := none) (by kernel_rfl) (by kernel_rfl) (by kernel_rfl) (fun wx hbx => (x_bldD (g := g51) (o := 2) (p := ((⟨g51, 0, none⟩ : Addr) : Addr).add 2) (v := .slice Aa44 t38.Syms.length cc45) (hw.up 0) hbx (by kernel_rfl) rfl (by kernel_rfl) (by kernel_rfl))) [7, 8, 9, 12, 90] (L' := [(7, .bool t8), (8, .pointer (some (⟨g27, 0, none⟩ : Addr))), (9, .pointer (some (⟨g51, 0, none⟩ : Addr))), (12, .int .i64 y96), (90, .slice Aa44 t38.Syms.length cc45)]) (by kernel_rfl) ?_
       clear hs; intro a hs
       refine c_pvs [2, 3] [4, 5, 6, 7, 8, 9, 10, 11] [7, 8, 9, 12, 90, 91, 92] hs (L' := [(7, .bool t8), (8, .pointer (some (⟨g27, 0, none⟩ : Addr))), (9, .pointer (some (⟨g51, 0, none⟩ : Addr))), (12, .int .i64 y96), (90, .slice Aa44 t38.Syms.length cc45), (91, .int .i64 y96), (92, .pointer (some (((⟨g51, 0, none⟩ : Addr) : Addr).add 2)))]) (by kernel_rfl) ?_ (by kernel_rfl)
       clear hs; intro a hs
       refine d_run hs (op := (Op.load 24 (Operand.tmp 92))) (ty := 24) (dst := some 93) (g := none) (by kernel_rfl) (by kernel_rfl) (by kernel_rfl) (fun wx hbx => (x_bldD (g := g51) (o := 2) (p := ((⟨g51, 0, none⟩ : Addr) : Addr).add 2) (v := .slice Aa44 t38.Syms.length cc45) (hw.up 0) hbx (by kernel_rfl) rfl (by kernel_rfl) (by kernel_rfl))) [7, 8, 9, 12, 90, 91, 93] (L' := [(7, .bool t8), (8, .pointer (some (⟨g27, 0, none⟩ : Addr))), (9, .pointer (some (⟨g51, 0, none⟩ : Addr))), (12, .int .i64 y96), (90, .slice Aa44 t38.Syms.length cc45), (91, .int .i64 y96), (93, .slice Aa44 t38.Syms.length cc45)]) (by kernel_rfl) ?_
       clear hs; intro a hs
       refine c_pvs [5] [6, 7, 8, 9, 10, 11] [7, 8, 9, 90, 91, 93, 94] hs (L' := [(7, .bool t8), (8, .pointer (some (⟨g27, 0, none⟩ : Addr))), (9, .pointer (some (⟨g51, 0, none⟩ : Addr))), (90, .slice Aa44 t38.Syms.length cc45), (91, .int .i64 y96), (93, .slice Aa44 t38.Syms.length cc45), (94, .int .i64 y96)]) (by kernel_rfl) ?_ (by kernel_rfl)
       clear hs; intro a hs
       obtain ⟨hp98, H⟩ := ite_only H
       obtain ⟨ad99, rfl⟩ := (Rd.of_own (hw.up 6)).some hp98.1 hp98.2
       refine d_run hs (op := (Op.indexAddr 24 (Operand.tmp 93) (Operand.tmp 94))) (ty := 0) (dst := some 95) (g := none) (by kernel_rfl) (by kernel_rfl) (by kernel_rfl) (fun wx hbx => (x_idx (T := 39) (sz := 2) (a := ad99) (n := t38.Syms.length) (cap := cc45) (k := .i64) (i := y96) (by kernel_rfl) (by kernel_rfl) (by kernel_rfl) (by kernel_rfl) hp98.1 hp98.2)) [7, 8, 9, 90, 91, 95] (L' := [(7, .bool t8), (8, .pointer (some (⟨g27, 0, none⟩ : Addr))), (9, .pointer (some (⟨g51, 0, none⟩ : Addr))), (90, .slice (some ad99) t38.Syms.length cc45), (91, .int .i64 y96), (95, .pointer (some (ad99.add (y96.toNat * 2))))]) (by kernel_rfl) ?_
       clear hs; intro a hs
       refine c_pvs [7] [8, 9, 10, 11] [7, 8, 9, 90, 91, 96] hs (L' := [(7, .bool t8), (8, .pointer (some (⟨g27, 0, none⟩ : Addr))), (9, .pointer (some (⟨g51, 0, none⟩ : Addr))), (90, .slice (some ad99) t38.Syms.length cc45), (91, .int .i64 y96), (96, .pointer (some ((ad99.add (y96.toNat * 2) : Addr).add 0)))]) (by kernel_rfl) ?_ (by kernel_rfl)
       clear hs; intro a hs
       refine d_run hs (op := (Op.load 9 (Operand.tmp 96))) (ty := 9) (dst := some 97) (g := none) (by kernel_rfl) (by kernel_rfl) (by kernel_rfl) (fun wx hbx => (x_ld (E := eSapi_Sym) (off := 0) (p := (ad99.add (y96.toNat * 2) : Addr).add 0) (v := .string ((ix eSapi_Sym.d t38.Syms y96).Name)) (Rd.bn (Rd.of_own (hw.up 6)) hbx) hp98.1 hp98.2 (by kernel_rfl) (by simp only [add_add', Nat.add_assoc]; rfl) (by kernel_rfl) (by kernel_rfl))) [7, 8, 9, 90, 91, 97] (L' := [(7, .bool t8), (8, .pointer (some (⟨g27, 0, none⟩ : Addr))), (9, .pointer (some (⟨g51, 0, none⟩ : Addr))), (90, .slice (some ad99) t38.Syms.length cc45), (91, .int .i64 y96), (97, .string ((ix eSapi_Sym.d t38.Syms y96).Name))]) (by kernel_rfl) ?_
       clear hs; intro a hs
       obtain ⟨hp100, H⟩ := ite_only H
       refine d_run hs (op := (Op.binOp BinOp.add 9 (Operand.tmp 97) (Operand.const (Value.string { data := #[95] })) 9)) (ty := 9) (dst := some 98) (g := none) (by kernel_rfl) (by kernel_rfl) (by kernel_rfl) (fun wx hbx => (x_cat (m := (ix eSapi_Sym.d t38.Syms y96).Name) (n := (⟨#[95]⟩ : ByteArray)) (by kernel_rfl) (by kernel_rfl) hp100)) [7, 8, 9, 90, 91, 98] (L' := [(7, .bool t8), (8, .pointer (some (⟨g27, 0, none⟩ : Addr))), (9, .pointer (some (⟨g51, 0, none⟩ : Addr))), (90, .slice (some ad99) t38.Syms.length cc45), (91, .int .i64 y96), (98, .string (((ix eSapi_Sym.d t38.Syms y96).Name) ++ (⟨#[95]⟩ : ByteArray)))]) (by kernel_rfl) ?_
       clear hs; intro a hs
       obtain ⟨hp101, H⟩ := ite_only H
       refine d_run hs (op := (Op.indexAddr 24 (Operand.tmp 90) (Operand.tmp 91))) (ty := 0) (dst := some 99) (g := none) (by kernel_rfl) (by kernel_rfl) (by kernel_rfl) (fun wx hbx => (x_idx (T := 39) (sz := 2) (a := ad99) (n := t38.Syms.length) (cap := cc45) (k := .i64) (i := y96) (by kernel_rfl) (by kernel_rfl) (by kernel_rfl) (by kernel_rfl) hp101.1 hp101.2)) [7, 8, 9, 98, 99] (L' := [(7, .bool t8), (8, .pointer (some (⟨g27, 0, none⟩ : Addr))), (9, .pointer (some (⟨g51, 0, none⟩ : Addr))), (98, .string (((ix eSapi_Sym.d t38.Syms y96).Name) ++ (⟨#[95]⟩ : ByteArray))), (99, .pointer (some (ad99.add (y96.toNat * 2))))]) (by kernel_rfl) ?_
       clear hs; intro a hs
       refine c_pvs [11] [] [7, 8, 9, 98, 100] hs (L' := [(7, .bool t8), (8, .pointer (some (⟨g27, 0, none⟩ : Addr))), (9, .pointer (some (⟨g51, 0, none⟩ : Addr))), (98, .string (((ix eSapi_Sym.d t38.Syms y96).Name) ++ (⟨#[95]⟩ : ByteArray))), (100, .pointer (some ((ad99.add (y96.toNat * 2) : Addr).add 0)))]) (by kernel_rfl) ?_ (by kernel_rfl)
       clear hs; intro a hs
       refine c_end ?_
       intro wq hbq
       replace hw := hw.behind hbq
       replace hw := hw.up 6
       obtain ⟨wd102, hx103, hw⟩ := x_put (P := Tryd.prog) (ty := 0) (t := 9) (x := (Operand.tmp 100)) (y := (Operand.tmp 98)) (off := 0) (p := (ad99.add (y96.toNat * 2) : Addr).add 0) (v := .string (((ix eSapi_Sym.d t38.Syms y96).Name) ++ (⟨#[95]⟩ : ByteArray))) (vs := [.string (((ix eSapi_Sym.d t38.Syms y96).Name) ++ (⟨#[95]⟩ : ByteArray))]) (i := y96) (e' := (({ (ix eSapi_Sym.d t38.Syms y96) with Name := ((ix eSapi_Sym.d t38.Syms y96).Name) ++ (⟨#[95]⟩ : ByteArray) } : Sapi_Sym) : Sapi_Sym)) hs hw rfl hp101.1 hp101.2 (by kernel_rfl) (by simp only [add_add', Nat.add_assoc]; rfl) (by kernel_rfl) rfl (by kernel_rfl) (Nat.le_of_ble_eq_true rfl) (by simp [Value.oneCell']) (by kernel_rfl)
       refine p_unit hs (op := (Op.store 9 (Operand.tmp 100) (Operand.tmp 98))) (ty := 0) (dst := none) (g := none) (by kernel_rfl) (by kernel_rfl) (by kernel_rfl) hx103 [7, 8, 9] (L' := [(7, .bool t8), (8, .pointer (some (⟨g27, 0, none⟩ : Addr))), (9, .pointer (some (⟨g51, 0, none⟩ : Addr)))]) (by kernel_rfl) ?_
       clear hs; intro a hs
       replace hw : St [] w0 wd102 [own 39 eSapi_Sym (some ad99) cc45 (t38.Syms.set (y96 : Int).toNat ({ (ix eSapi_Sym.d t38.Syms y96) with Name := ((ix eSapi_Sym.d t38.Syms y96).Name) ++ (⟨#[95]⟩ : ByteArray) } : Sapi_Sym)), box g51 26 [.slice Aa40 t38.Words.length cc41, .slice Aa42 t38.Sites.length cc43, .slice (some ad99) (t38.Syms.set (y96 : Int).toNat ({ (ix eSapi_Sym.d t38.Syms y96) with Name := ((ix eSapi_Sym.d t38.Syms y96).Name) ++ (⟨#[95]⟩ : ByteArray) } : Sapi_Sym)).length cc45], own 39 eSapi_Sym none 0 ([] : List Sapi_Sym), own 3 (eI .i64) none 0 ([] : List Int), own 37 (eI .u32) none 0 ([] : List Int), own 37 (eI .u32) Aa40 cc41 t38.Words, own 3 (eI .i64) Aa42 cc43 t38.Sites, box g27 26 [.slice Aa16 t14.Words.length cc17, .slice Aa18 t14.Sites.length cc19, .slice Aa20 t14.Syms.length cc21], own 39 eSapi_Sym none 0 ([] : List Sapi_Sym), own 3 (eI .i64) none 0 ([] : List Int), own 37 (eI .u32) none 0 ([] : List Int), own 37 (eI .u32) Aa16 cc17 t14.Words, own 3 (eI .i64) Aa18 cc19 t14.Sites, own 39 eSapi_Sym Aa20 cc21 t14.Syms, box g2 35 [.slice A0_1 a0.Words.length c0_1, .slice A0_2 a0.Bits.length c0_2, .slice A0_3 a0.Names.length c0_3]] := by rw [show (t38.Syms.set (y96 : Int).toNat ({ (ix eSapi_Sym.d t38.Syms y96) with Name := ((ix eSapi_Sym.d t38.Syms y96).Name) ++ (⟨#[95]⟩ : ByteArray) } : Sapi_Sym)).length = (t38.Syms).length from List.length_set]; exact hw
       refine c_done ⟨.inl (by kernel_rfl), ?_⟩
       clear hbq
       refine d_last ?_
       refine c_end ?_
       intro wq hbq
       replace hw := hw.behind hbq
       refine hK97 _ _ ?_
       refine go_region ?_
       refine go_pvs 0 1 [7, 8, 9, 10] hs (L' := [(7, .bool t8), (8, .pointer (some (⟨g27, 0, none⟩ : Addr))), (9, .pointer (some (⟨g51, 0, none⟩ : Addr))), (10, .bool true)]) (by kernel_rfl) ?_ rfl
       clear hs; intro a hs
       refine go_end (by kernel_rfl) ?_
       refine ib_norm ?_
       replace hw := hw.up 14
       replace hw := hw.up 14
       replace hw := hw.up 14
       replace hw := hw.up 14
       replace hw := hw.up 14
       replace hw := hw.up 14
       replace hw := hw.up 14
       replace hw := hw.up 14
       replace hw := hw.up 8
       replace hw := hw.up 14
       replace hw := hw.up 14
       replace hw := hw.up 14
       replace hw := hw.up 14
       replace hw := hw.up 14
       replace hw := hw.up 14
       replace hw := hw.only 15
       exact hJ5 Aa42 cc43 t38.Sites (fun _ h => h) Aa40 cc41 t38.Words (t38.Syms.set (y96 : Int).toNat ({ (ix eSapi_Sym.d t38.Syms y96) with Name := ((ix eSapi_Sym.d t38.Syms y96).Name) ++ (⟨#[95]⟩ : ByteArray) } : Sapi_Sym)) true _ _ (hs.keep [7, 8, 9, 10] (by kernel_rfl)) hw H
      ·replace H := ite_f H (ff hc)
       have hb104 := hc
       rw [hb104] at hs
       refine go_seq_k fun K105 hK105 => ?_
       have hJ4 : ∀ (v107 : Bool) (a : Act) (w : World), Slots a 160 [(1, .int .u8 a1), (2, .int .u8 a2), (7, .bool t8), (8, .pointer (some (⟨g27, 0, none⟩ : Addr))), (9, .pointer (some (⟨g51, 0, none⟩ : Addr))), (10, .bool false), (101, .bool v107)] → St [] w0 w [box g51 26 [.slice Aa40 t38.Words.length cc41, .slice Aa42 t38.Sites.length cc43, .slice Aa44 t38.Syms.length cc45], own 39 eSapi_Sym none 0 ([] : List Sapi_Sym), own 3 (eI .i64) none 0 ([] : List Int), own 37 (eI .u32) none 0 ([] : List Int), own 37 (eI .u32) Aa40 cc41 t38.Words, own 3 (eI .i64) Aa42 cc43 t38.Sites, own 39 eSapi_Sym Aa44 cc45 t38.Syms, box g27 26 [.slice Aa16 t14.Words.length cc17, .slice Aa18 t14.Sites.length cc19, .slice Aa20 t14.Syms.length cc21], own 39 eSapi_Sym none 0 ([] : List Sapi_Sym), own 3 (eI .i64) none 0 ([] : List Int), own 37 (eI .u32) none 0 ([] : List Int), own 37 (eI .u32) Aa16 cc17 t14.Words, own 3 (eI .i64) Aa18 cc19 t14.Sites, own 39 eSapi_Sym Aa20 cc21 t14.Syms, box g2 35 [.slice A0_1 a0.Words.length c0_1, .slice A0_2 a0.Bits.length c0_2, .slice A0_3 a0.Names.length c0_3]] → rivetlaw09_ObjectUnlike.j4 t38 a2 t8 t14 a1 v107 = some r → K105 a w := by
        intro v107 a w hs hw H
        unfold rivetlaw09_ObjectUnlike.j4 at H
        refine hK105 _ _ ?_
        refine go_cond hs v107 (by kernel_rfl) (fun hc => ?_) (fun hc => ?_)
        ·replace H := ite_t H hc
         have hb108 := hc
         rw [hb108] at hs
         refine go_seq_k fun K109 hK109 => ?_
         refine go_region ?_
         refine go_pvs 0 3 [7, 8, 9, 112, 113] hs (L' := [(7, .bool t8), (8, .pointer (some (⟨g27, 0, none⟩ : Addr))), (9, .pointer (some (⟨g51, 0, none⟩ : Addr))), (112, .int .i64 (w64 a2)), (113, .pointer (some (((⟨g51, 0, none⟩ : Addr) : Addr).add 2)))]) (by kernel_rfl) ?_ rfl
         clear hs; intro a hs
         refine go_run hs (op := (Op.load 24 (Operand.tmp 113))) (ty := 24) (dst := some 114) (g := none) (by kernel_rfl) (by kernel_rfl) (by kernel_rfl) (x_bld (g := g51) (o := 2) (p := ((⟨g51, 0, none⟩ : Addr) : Addr).add 2) (v := .slice Aa44 t38.Syms.length cc45) (hw.up 0) (by kernel_rfl) rfl (by kernel_rfl) (by kernel_rfl)) [7, 8, 9, 112, 114] (L' := [(7, .bool t8), (8, .pointer (some (⟨g27, 0, none⟩ : Addr))), (9, .pointer (some (⟨g51, 0, none⟩ : Addr))), (112, .int .i64 (w64 a2)), (114, .slice Aa44 t38.Syms.length cc45)]) (by kernel_rfl) ?_
         clear hs; intro a hs
         refine go_pvs 4 5 [7, 8, 9, 112, 115] hs (L' := [(7, .bool t8), (8, .pointer (some (⟨g27, 0, none⟩ : Addr))), (9, .pointer (some (⟨g51, 0, none⟩ : Addr))), (112, .int .i64 (w64 a2)), (115, .int .i64 (t38.Syms.length : Int))]) (by kernel_rfl) ?_ rfl
         clear hs; intro a hs
         obtain ⟨hp110, H⟩ := ite_only H
         refine go_run hs (op := (Op.binOp BinOp.rem 3 (Operand.tmp 112) (Operand.tmp 115) 3)) (ty := 3) (dst := some 116) (g := none) (by kernel_rfl) (by kernel_rfl) (by kernel_rfl) (x_rem (k := .i64) (m := w64 a2) (n := (t38.Syms.length : Int)) (by kernel_rfl) (by kernel_rfl) hp110) [7, 8, 9, 116] (L' := [(7, .bool t8), (8, .pointer (some (⟨g27, 0, none⟩ : Addr))), (9, .pointer (some (⟨g51, 0, none⟩ : Addr))), (116, .int .i64 ((w64 a2).tmod (t38.Syms.length : Int)))]) (by kernel_rfl) ?_
         clear hs; intro a hs
         refine go_pvs 6 7 [7, 8, 9, 13] hs (L' := [(7, .bool t8), (8, .pointer (some (⟨g27, 0, none⟩ : Addr))), (9, .pointer (some (⟨g51, 0, none⟩ : Addr))), (13, .int .i64 ((w64 a2).tmod (t38.Syms.length : Int)))]) (by kernel_rfl) ?_ rfl
         clear hs; intro a hs
         obtain ⟨y111, hy111, H⟩ := nm_some H
         replace hs : Slots a 160 [(7, .bool t8), (8, .pointer (some (⟨g27, 0, none⟩ : Addr))), (9, .pointer (some (⟨g51, 0, none⟩ : Addr))), (13, .int .i64 y111)] := by rw [hy111]; exact hs
         refine go_end (by kernel_rfl) ?_
         refine hK109 _ _ ?_
         refine go_seq_k fun K112 hK112 => ?_
         refine d_region [12] [(true, [0, 1, 2, 3, 4, 5, 6, 7, 8, 9, 10, 11], 12)] [] (by kernel_rfl) (by kernel_rfl) (fun c a d v w h => by cases d <;> exact h) ?_
         refine d_seg ?_
         refine c_pvs [0] [1, 2, 3, 4, 5, 6, 7, 8, 9, 10, 11] [7, 8, 9, 13, 117] hs (L' := [(7, .bool t8), (8, .pointer (some (⟨g27, 0, none⟩ : Addr))), (9, .pointer (some (⟨g51, 0, none⟩ : Addr))), (13, .int .i64 y111), (117, .pointer (some (((⟨g51, 0, none⟩ : Addr) : Addr).add 2)))]) (by kernel_rfl) ?_ (by kernel_rfl)
         clear hs; intro a hs
         refine d_run hs (op := (Op.load 24 (Operand.tmp 117))) (ty := 24) (dst := some 118) (g := none) (by kernel_rfl) (by kernel_rfl) (by kernel_rfl) (fun wx hbx => (x_bldD (g := g51) (o := 2) (p := ((⟨g51, 0, none⟩ : Addr) : Addr).add 2) (v := .slice Aa44 t38.Syms.length cc45) (hw.up 0) hbx (by kernel_rfl) rfl (by kernel_rfl) (by kernel_rfl))) [7, 8, 9, 13, 118] (L' := [(7, .bool t8), (8, .pointer (some (⟨g27, 0, none⟩ : Addr))), (9, .pointer (some (⟨g51, 0, none⟩ : Addr))), (13, .int .i64 y111), (118, .slice Aa44 t38.Syms.length cc45)]) (by kernel_rfl) ?_
         clear hs; intro a hs
         refine c_pvs [2, 3] [4, 5, 6, 7, 8, 9, 10, 11] [7, 8, 9, 13, 118, 119, 120] hs (L' := [(7, .bool t8), (8, .pointer (some (⟨g27, 0, none⟩ : Addr))), (9, .pointer (some (⟨g51, 0, none⟩ : Addr))), (13, .int .i64 y111), (118, .slice Aa44 t38.Syms.length cc45), (119, .int .i64 y111), (120, .pointer (some (((⟨g51, 0, none⟩ : Addr) : Addr).add 2)))]) (by kernel_rfl) ?_ (by kernel_rfl)
         clear hs; intro a hs
         refine d_run hs (op := (Op.load 24 (Operand.tmp 120))) (ty := 24) (dst := some 121) (g := none) (by kernel_rfl) (by kernel_rfl) (by kernel_rfl) (fun wx hbx => (x_bldD (g := g51) (o := 2) (p := ((⟨g51, 0, none⟩ : Addr) : Addr).add 2) (v := .slice Aa44 t38.Syms.length cc45) (hw.up 0) hbx (by kernel_rfl) rfl (by kernel_rfl) (by kernel_rfl))) [7, 8, 9, 13, 118, 119, 121] (L' := [(7, .bool t8), (8, .pointer (some (⟨g27, 0, none⟩ : Addr))), (9, .pointer (some (⟨g51, 0, none⟩ : Addr))), (13, .int .i64 y111), (118, .slice Aa44 t38.Syms.length cc45), (119, .int .i64 y111), (121, .slice Aa44 t38.Syms.length cc45)]) (by kernel_rfl) ?_
         clear hs; intro a hs
         refine c_pvs [5] [6, 7, 8, 9, 10, 11] [7, 8, 9, 118, 119, 121, 122] hs (L' := [(7, .bool t8), (8, .pointer (some (⟨g27, 0, none⟩ : Addr))), (9, .pointer (some (⟨g51, 0, none⟩ : Addr))), (118, .slice Aa44 t38.Syms.length cc45), (119, .int .i64 y111), (121, .slice Aa44 t38.Syms.length cc45), (122, .int .i64 y111)]) (by kernel_rfl) ?_ (by kernel_rfl)
         clear hs; intro a hs
         obtain ⟨hp113, H⟩ := ite_only H
         obtain ⟨ad114, rfl⟩ := (Rd.of_own (hw.up 6)).some hp113.1 hp113.2
         refine d_run hs (op := (Op.indexAddr 24 (Operand.tmp 121) (Operand.tmp 122))) (ty := 0) (dst := some 123) (g := none) (by kernel_rfl) (by kernel_rfl) (by kernel_rfl) (fun wx hbx => (x_idx (T := 39) (sz := 2) (a := ad114) (n := t38.Syms.length) (cap := cc45) (k := .i64) (i := y111) (by kernel_rfl) (by kernel_rfl) (by kernel_rfl) (by kernel_rfl) hp113.1 hp113.2)) [7, 8, 9, 118, 119, 123] (L' := [(7, .bool t8), (8, .pointer (some (⟨g27, 0, none⟩ : Addr))), (9, .pointer (some (⟨g51, 0, none⟩ : Addr))), (118, .slice (some ad114) t38.Syms.length cc45), (119, .int .i64 y111), (123, .pointer (some (ad114.add (y111.toNat * 2))))]) (by kernel_rfl) ?_
         clear hs; intro a hs
         refine c_pvs [7] [8, 9, 10, 11] [7, 8, 9, 118, 119, 124] hs (L' := [(7, .bool t8), (8, .pointer (some (⟨g27, 0, none⟩ : Addr))), (9, .pointer (some (⟨g51, 0, none⟩ : Addr))), (118, .slice (some ad114) t38.Syms.length cc45), (119, .int .i64 y111), (124, .pointer (some ((ad114.add (y111.toNat * 2) : Addr).add 1)))]) (by kernel_rfl) ?_ (by kernel_rfl)
         clear hs; intro a hs
         refine d_run hs (op := (Op.load 3 (Operand.tmp 124))) (ty := 3) (dst := some 125) (g := none) (by kernel_rfl) (by kernel_rfl) (by kernel_rfl) (fun wx hbx => (x_ld (E := eSapi_Sym) (off := 1) (p := (ad114.add (y111.toNat * 2) : Addr).add 1) (v := .int .i64 ((ix eSapi_Sym.d t38.Syms y111).At)) (Rd.bn (Rd.of_own (hw.up 6)) hbx) hp113.1 hp113.2 (by kernel_rfl) (by simp only [add_add', Nat.add_assoc]; rfl) (by kernel_rfl) (by kernel_rfl))) [7, 8, 9, 118, 119, 125] (L' := [(7, .bool t8), (8, .pointer (some (⟨g27, 0, none⟩ : Addr))), (9, .pointer (some (⟨g51, 0, none⟩ : Addr))), (118, .slice (some ad114) t38.Syms.length cc45), (119, .int .i64 y111), (125, .int .i64 ((ix eSapi_Sym.d t38.Syms y111).At))]) (by kernel_rfl) ?_
         clear hs; intro a hs
         refine c_pvs [9] [10, 11] [7, 8, 9, 118, 119, 126] hs (L' := [(7, .bool t8), (8, .pointer (some (⟨g27, 0, none⟩ : Addr))), (9, .pointer (some (⟨g51, 0, none⟩ : Addr))), (118, .slice (some ad114) t38.Syms.length cc45), (119, .int .i64 y111), (126, .int .i64 (w64 (((ix eSapi_Sym.d t38.Syms y111).At) + 4)))]) (by kernel_rfl) ?_ (by kernel_rfl)
         clear hs; intro a hs
         obtain ⟨hp115, H⟩ := ite_only H
         refine d_run hs (op := (Op.indexAddr 24 (Operand.tmp 118) (Operand.tmp 119))) (ty := 0) (dst := some 127) (g := none) (by kernel_rfl) (by kernel_rfl) (by kernel_rfl) (fun wx hbx => (x_idx (T := 39) (sz := 2) (a := ad114) (n := t38.Syms.length) (cap := cc45) (k := .i64) (i := y111) (by kernel_rfl) (by kernel_rfl) (by kernel_rfl) (by kernel_rfl) hp115.1 hp115.2)) [7, 8, 9, 126, 127] (L' := [(7, .bool t8), (8, .pointer (some (⟨g27, 0, none⟩ : Addr))), (9, .pointer (some (⟨g51, 0, none⟩ : Addr))), (126, .int .i64 (w64 (((ix eSapi_Sym.d t38.Syms y111).At) + 4))), (127, .pointer (some (ad114.add (y111.toNat * 2))))]) (by kernel_rfl) ?_
         clear hs; intro a hs
         refine c_pvs [11] [] [7, 8, 9, 126, 128] hs (L' := [(7, .bool t8), (8, .pointer (some (⟨g27, 0, none⟩ : Addr))), (9, .pointer (some (⟨g51, 0, none⟩ : Addr))), (126, .int .i64 (w64 (((ix eSapi_Sym.d t38.Syms y111).At) + 4))), (128, .pointer (some ((ad114.add (y111.toNat * 2) : Addr).add 1)))]) (by kernel_rfl) ?_ (by kernel_rfl)
         clear hs; intro a hs
         refine c_end ?_
         intro wq hbq
         replace hw := hw.behind hbq
         replace hw := hw.up 6
         obtain ⟨wd116, hx117, hw⟩ := x_put (P := Tryd.prog) (ty := 0) (t := 3) (x := (Operand.tmp 128)) (y := (Operand.tmp 126)) (off := 1) (p := (ad114.add (y111.toNat * 2) : Addr).add 1) (v := .int .i64 (w64 (((ix eSapi_Sym.d t38.Syms y111).At) + 4))) (vs := [.int .i64 (w64 (((ix eSapi_Sym.d t38.Syms y111).At) + 4))]) (i := y111) (e' := (({ (ix eSapi_Sym.d t38.Syms y111) with At := w64 (((ix eSapi_Sym.d t38.Syms y111).At) + 4) } : Sapi_Sym) : Sapi_Sym)) hs hw rfl hp115.1 hp115.2 (by kernel_rfl) (by simp only [add_add', Nat.add_assoc]; rfl) (by kernel_rfl) rfl (by kernel_rfl) (Nat.le_of_ble_eq_true rfl) (by simp [Value.oneCell']) (by kernel_rfl)
         refine p_unit hs (op := (Op.store 3 (Operand.tmp 128) (Operand.tmp 126))) (ty := 0) (dst := none) (g := none) (by kernel_rfl) (by kernel_rfl) (by kernel_rfl) hx117 [7, 8, 9] (L' := [(7, .bool t8), (8, .pointer (some (⟨g27, 0, none⟩ : Addr))), (9, .pointer (some (⟨g51, 0, none⟩ : Addr)))]) (by kernel_rfl) ?_
         clear hs; intro a hs
         replace hw : St [] w0 wd116 [own 39 eSapi_Sym (some ad114) cc45 (t38.Syms.set (y111 : Int).toNat ({ (ix eSapi_Sym.d t38.Syms y111) with At := w64 (((ix eSapi_Sym.d t38.Syms y111).At) + 4) } : Sapi_Sym)), box g51 26 [.slice Aa40 t38.Words.length cc41, .slice Aa42 t38.Sites.length cc43, .slice (some ad114) (t38.Syms.set (y111 : Int).toNat ({ (ix eSapi_Sym.d t38.Syms y111) with At := w64 (((ix eSapi_Sym.d t38.Syms y111).At) + 4) } : Sapi_Sym)).length cc45], own 39 eSapi_Sym none 0 ([] : List Sapi_Sym), own 3 (eI .i64) none 0 ([] : List Int), own 37 (eI .u32) none 0 ([] : List Int), own 37 (eI .u32) Aa40 cc41 t38.Words, own 3 (eI .i64) Aa42 cc43 t38.Sites, box g27 26 [.slice Aa16 t14.Words.length cc17, .slice Aa18 t14.Sites.length cc19, .slice Aa20 t14.Syms.length cc21], own 39 eSapi_Sym none 0 ([] : List Sapi_Sym), own 3 (eI .i64) none 0 ([] : List Int), own 37 (eI .u32) none 0 ([] : List Int), own 37 (eI .u32) Aa16 cc17 t14.Words, own 3 (eI .i64) Aa18 cc19 t14.Sites, own 39 eSapi_Sym Aa20 cc21 t14.Syms, box g2 35 [.slice A0_1 a0.Words.length c0_1, .slice A0_2 a0.Bits.length c0_2, .slice A0_3 a0.Names.length c0_3]] := by rw [show (t38.Syms.set (y111 : Int).toNat ({ (ix eSapi_Sym.d t38.Syms y111) with At := w64 (((ix eSapi_Sym.d t38.Syms y111).At) + 4) } : Sapi_Sym)).length = (t38.Syms).length from List.length_set]; exact hw
         refine c_done ⟨.inl (by kernel_rfl), ?_⟩
         clear hbq
         refine d_last ?_
         refine c_end ?_
         intro wq hbq
         replace hw := hw.behind hbq
         refine hK112 _ _ ?_
         refine go_region ?_
         refine go_pvs 0 1 [7, 8, 9, 10] hs (L' := [(7, .bool t8), (8, .pointer (some (⟨g27, 0, none⟩ : Addr))), (9, .pointer (some (⟨g51, 0, none⟩ : Addr))), (10, .bool true)]) (by kernel_rfl) ?_ rfl
         clear hs; intro a hs
         refine go_end (by kernel_rfl) ?_
         refine ib_norm ?_
         replace hw := hw.up 14
         replace hw := hw.up 14
         replace hw := hw.up 14
         replace hw := hw.up 14
         replace hw := hw.up 14
         replace hw := hw.up 14
         replace hw := hw.up 14
         replace hw := hw.up 14
         replace hw := hw.up 8
         replace hw := hw.up 14
         replace hw := hw.up 14
         replace hw := hw.up 14
         replace hw := hw.up 14
         replace hw := hw.up 14
         replace hw := hw.up 14
         replace hw := hw.only 15
         exact hJ5 Aa42 cc43 t38.Sites (fun _ h => h) Aa40 cc41 t38.Words (t38.Syms.set (y111 : Int).toNat ({ (ix eSapi_Sym.d t38.Syms y111) with At := w64 (((ix eSapi_Sym.d t38.Syms y111).At) + 4) } : Sapi_Sym)) true _ _ (hs.keep [7, 8, 9, 10] (by kernel_rfl)) hw H
        ·replace H := ite_f H (ff hc)
         have hb118 := hc
         rw [hb118] at hs
         refine go_seq_k fun K119 hK119 => ?_
         refine go_region ?_
         refine go_pvs 0 4 [7, 8, 9, 10, 129] hs (L' := [(7, .bool t8), (8, .pointer (some (⟨g27, 0, none⟩ : Addr))), (9, .pointer (some (⟨g51, 0, none⟩ : Addr))), (10, .bool false), (129, .bool ((a1.tmod 5) == 4))]) (by kernel_rfl) ?_ rfl
         clear hs; intro a hs
         refine go_end (by kernel_rfl) ?_
         refine hK119 _ _ ?_
         refine go_cond hs ((a1.tmod 5) == 4) (by kernel_rfl) (fun hc => ?_) (fun hc => ?_)
         ·replace H := ite_t H (beq_iff_eq.1 hc)
          have hb120 := hc
          rw [hb120] at hs
          refine go_seq_k fun K121 hK121 => ?_
          refine go_region ?_
          refine go_pvs 0 1 [7, 8, 9, 133] hs (L' := [(7, .bool t8), (8, .pointer (some (⟨g27, 0, none⟩ : Addr))), (9, .pointer (some (⟨g51, 0, none⟩ : Addr))), (133, .pointer (some (((⟨g51, 0, none⟩ : Addr) : Addr).add 0)))]) (by kernel_rfl) ?_ rfl
          clear hs; intro a hs
          refine go_run hs (op := (Op.load 22 (Operand.tmp 133))) (ty := 22) (dst := some 134) (g := none) (by kernel_rfl) (by kernel_rfl) (by kernel_rfl) (x_bld (g := g51) (o := 0) (p := ((⟨g51, 0, none⟩ : Addr) : Addr).add 0) (v := .slice Aa40 t38.Words.length cc41) (hw.up 0) (by kernel_rfl) rfl (by kernel_rfl) (by kernel_rfl)) [7, 8, 9, 134] (L' := [(7, .bool t8), (8, .pointer (some (⟨g27, 0, none⟩ : Addr))), (9, .pointer (some (⟨g51, 0, none⟩ : Addr))), (134, .slice Aa40 t38.Words.length cc41)]) (by kernel_rfl) ?_
          clear hs; intro a hs
          obtain ⟨Aa122, cc123, wd124, hx125, hw⟩ := n_lit (P := Tryd.prog) (t := 22) (ty := 22) (T := 37) (len := 1) (parts := #[(0, (Operand.const (Value.int IntKind.u32 0)))]) (z := .int .u32 0) (bytes := 4) (cells := #[.int .u32 0]) hs hw (eI .u32) ([0] : List Int) (by kernel_rfl) (by kernel_rfl) (by kernel_rfl) (by kernel_rfl) (by kernel_rfl) (by kernel_rfl) (by kernel_rfl)
          refine go_run hs (op := (Op.buildSlice 22 1 #[(0, (Operand.const (Value.int IntKind.u32 0)))])) (ty := 22) (dst := some 135) (g := none) (by kernel_rfl) (by kernel_rfl) (by kernel_rfl) hx125 [7, 8, 9, 134, 135] (L' := [(7, .bool t8), (8, .pointer (some (⟨g27, 0, none⟩ : Addr))), (9, .pointer (some (⟨g51, 0, none⟩ : Addr))), (134, .slice Aa40 t38.Words.length cc41), (135, .slice Aa122 ([0] : List Int).length cc123)]) (by kernel_rfl) ?_
          clear hs; intro a hs
          obtain ⟨hp127, H⟩ := ite_only H
          have hsrc132 : Src Tryd.prog (eI .u32).sz 22 (.slice Aa122 ([0] : List Int).length cc123) ([0] : List Int).length (([0] : List Int).flatMap (eI .u32).enc) _ := (Src.of_rd (E := (eI .u32)) (e' := 37) (by kernel_rfl) (Rd.of_own (hw.up 0)))
          replace hw := hw.up 5
          obtain ⟨Aa128, cc129, wd130, hx131, hw⟩ := x_append (P := Tryd.prog) (t := 22) (tx := 22) (ty := 22) (x := (Operand.tmp 134)) (y := (Operand.tmp 135)) (z := .int .u32 0) (bytes := 4) (l2 := ([0] : List Int)) hs hw (by kernel_rfl) (by kernel_rfl) (by kernel_rfl) (by kernel_rfl) (by kernel_rfl) hsrc132 (by omega) (by omega)
          refine go_run hs (op := (Op.call { callee := (Callee.builtin Builtin.append), args := #[(Operand.tmp 134), (Operand.tmp 135)], argTypes := #[22, 22] })) (ty := 22) (dst := some 136) (g := none) (by kernel_rfl) (by kernel_rfl) (by kernel_rfl) hx131 [7, 8, 9, 136] (L' := [(7, .bool t8), (8, .pointer (some (⟨g27, 0, none⟩ : Addr))), (9, .pointer (some (⟨g51, 0, none⟩ : Addr))), (136, .slice Aa128 (t38.Words ++ ([0] : List Int)).length cc129)]) (by kernel_rfl) ?_
          clear hs; intro a hs
          refine go_pvs 4 5 [7, 8, 9, 136, 137] hs (L' := [(7, .bool t8), (8, .pointer (some (⟨g27, 0, none⟩ : Addr))), (9, .pointer (some (⟨g51, 0, none⟩ : Addr))), (136, .slice Aa128 (t38.Words ++ ([0] : List Int)).length cc129), (137, .pointer (some (((⟨g51, 0, none⟩ : Addr) : Addr).add 0)))]) (by kernel_rfl) ?_ rfl
          clear hs; intro a hs
          replace hw := hw.up 2
          obtain ⟨wd133, hx134, hw⟩ := x_bput (P := Tryd.prog) (ty := 0) (t := 22) (y := (Operand.tmp 137)) (z := (Operand.tmp 136)) (o := 0) (p := ((⟨g51, 0, none⟩ : Addr) : Addr).add 0) (v := .slice Aa128 (t38.Words ++ ([0] : List Int)).length cc129) (vs := [.slice Aa128 (t38.Words ++ ([0] : List Int)).length cc129]) (cs' := [.slice Aa128 (t38.Words ++ ([0] : List Int)).length cc129, .slice Aa42 t38.Sites.length cc43, .slice Aa44 t38.Syms.length cc45]) hs hw (by kernel_rfl) rfl (by kernel_rfl) rfl (by kernel_rfl) (by kernel_rfl) (by simp [Value.oneCell']) rfl
          refine go_unit hs (op := (Op.store 22 (Operand.tmp 137) (Operand.tmp 136))) (ty := 0) (dst := none) (g := none) (by kernel_rfl) (by kernel_rfl) (by kernel_rfl) hx134 [7, 8, 9] (L' := [(7, .bool t8), (8, .pointer (some (⟨g27, 0, none⟩ : Addr))), (9, .pointer (some (⟨g51, 0, none⟩ : Addr)))]) (by kernel_rfl) ?_
          clear hs; intro a hs
          refine go_end (by kernel_rfl) ?_
          refine hK121 _ _ ?_
          refine go_region ?_
          refine go_pvs 0 1 [7, 8, 9, 10] hs (L' := [(7, .bool t8), (8, .pointer (some (⟨g27, 0, none⟩ : Addr))), (9, .pointer (some (⟨g51, 0, none⟩ : Addr))), (10, .bool true)]) (by kernel_rfl) ?_ rfl
          clear hs; intro a hs
          refine go_end (by kernel_rfl) ?_
          refine ib_norm ?_
          replace hw := hw.up 15
          replace hw := hw.up 15
          replace hw := hw.up 15
          replace hw := hw.up 15
          replace hw := hw.up 15
          replace hw := hw.up 15
          replace hw := hw.up 15
          replace hw := hw.up 15
          replace hw := hw.up 15
          replace hw := hw.up 15
          replace hw := hw.up 11
          replace hw := hw.up 15
          replace hw := hw.up 15
          replace hw := hw.up 15
          replace hw := hw.up 14
          replace hw := hw.only 15
          exact hJ5 Aa42 cc43 t38.Sites (fun _ h => h) Aa128 cc129 (t38.Words ++ ([0] : List Int)) t38.Syms true _ _ (hs.keep [7, 8, 9, 10] (by kernel_rfl)) hw H
         ·replace H := ite_f H (beq_eq_false_iff_ne.1 hc)
          have hb135 := hc
          rw [hb135] at hs
          refine wp_skip ?_
          refine ib_norm ?_
          replace hw := hw.up 14
          replace hw := hw.up 14
          replace hw := hw.up 14
          replace hw := hw.up 14
          replace hw := hw.up 14
          replace hw := hw.up 14
          replace hw := hw.up 14
          replace hw := hw.up 14
          replace hw := hw.up 14
          replace hw := hw.up 14
          replace hw := hw.up 14
          replace hw := hw.up 14
          replace hw := hw.up 14
          replace hw := hw.up 14
          replace hw := hw.up 14
          replace hw := hw.only 15
          exact hJ5 Aa42 cc43 t38.Sites (fun _ h => h) Aa40 cc41 t38.Words t38.Syms false _ _ (hs.keep [7, 8, 9, 10] (by kernel_rfl)) hw H
       refine go_region ?_
       refine go_pvs 0 4 [1, 2, 7, 8, 9, 10, 105] hs (L' := [(1, .int .u8 a1), (2, .int .u8 a2), (7, .bool t8), (8, .pointer (some (⟨g27, 0, none⟩ : Addr))), (9, .pointer (some (⟨g51, 0, none⟩ : Addr))), (10, .bool false), (105, .bool ((a1.tmod 5) == 3))]) (by kernel_rfl) ?_ rfl
       clear hs; intro a hs
       cases hb106 : ((a1.tmod 5) == 3)
       ·replace H := ite_f H (beq_eq_false_iff_ne.1 hb106)
        rw [hb106] at hs
        refine go_pvs 4 10 [1, 2, 7, 8, 9, 10, 101] hs (L' := [(1, .int .u8 a1), (2, .int .u8 a2), (7, .bool t8), (8, .pointer (some (⟨g27, 0, none⟩ : Addr))), (9, .pointer (some (⟨g51, 0, none⟩ : Addr))), (10, .bool false), (101, .bool false)]) (by kernel_rfl) ?_ rfl
        clear hs; intro a hs
        refine go_end (by kernel_rfl) ?_
        replace hw := hw.up 14
        replace hw := hw.up 14
        replace hw := hw.up 14
        replace hw := hw.up 14
        replace hw := hw.up 14
        replace hw := hw.up 14
        replace hw := hw.up 14
        replace hw := hw.up 14
        replace hw := hw.up 14
        replace hw := hw.up 14
        replace hw := hw.up 14
        replace hw := hw.up 14
        replace hw := hw.up 14
        replace hw := hw.up 14
        replace hw := hw.up 14
        replace hw := hw.only 15
        exact hJ4 false _ _ (hs.keep [1, 2, 7, 8, 9, 10, 101] (by kernel_rfl)) hw H
       ·replace H := ite_t H (beq_iff_eq.1 hb106)
        rw [hb106] at hs
        refine go_pvs 4 5 [1, 2, 7, 8, 9, 10, 105, 106] hs (L' := [(1, .int .u8 a1), (2, .int .u8 a2), (7, .bool t8), (8, .pointer (some (⟨g27, 0, none⟩ : Addr))), (9, .pointer (some (⟨g51, 0, none⟩ : Addr))), (10, .bool false), (105, .bool true), (106, .pointer (some (((⟨g51, 0, none⟩ : Addr) : Addr).add 2)))]) (by kernel_rfl) ?_ rfl
        clear hs; intro a hs
        refine go_run hs (op := (Op.load 24 (Operand.tmp 106))) (ty := 24) (dst := some 107) (g := some (3, true)) (by kernel_rfl) (by kernel_rfl) (by kernel_rfl) (x_bld (g := g51) (o := 2) (p := ((⟨g51, 0, none⟩ : Addr) : Addr).add 2) (v := .slice Aa44 t38.Syms.length cc45) (hw.up 0) (by kernel_rfl) rfl (by kernel_rfl) (by kernel_rfl)) [1, 2, 7, 8, 9, 10, 105, 107] (L' := [(1, .int .u8 a1), (2, .int .u8 a2), (7, .bool t8), (8, .pointer (some (⟨g27, 0, none⟩ : Addr))), (9, .pointer (some (⟨g51, 0, none⟩ : Addr))), (10, .bool false), (105, .bool true), (107, .slice Aa44 t38.Syms.length cc45)]) (by kernel_rfl) ?_
        clear hs; intro a hs
        refine go_pvs 6 10 [1, 2, 7, 8, 9, 10, 101] hs (L' := [(1, .int .u8 a1), (2, .int .u8 a2), (7, .bool t8), (8, .pointer (some (⟨g27, 0, none⟩ : Addr))), (9, .pointer (some (⟨g51, 0, none⟩ : Addr))), (10, .bool false), (101, .bool (decide ((t38.Syms.length : Int) > 0)))]) (by kernel_rfl) ?_ rfl
        clear hs; intro a hs
        refine go_end (by kernel_rfl) ?_
        replace hw := hw.up 14
        replace hw := hw.up 14
        replace hw := hw.up 14
        replace hw := hw.up 14
        replace hw := hw.up 14
        replace hw := hw.up 14
        replace hw := hw.up 14
        replace hw := hw.up 14
        replace hw := hw.up 14
        replace hw := hw.up 14
        replace hw := hw.up 14
        replace hw := hw.up 14
        replace hw := hw.up 14
        replace hw := hw.up 14
        replace hw := hw.up 14
        replace hw := hw.only 15
        exact hJ4 (decide ((t38.Syms.length : Int) > 0)) _ _ (hs.keep [1, 2, 7, 8, 9, 10, 101] (by kernel_rfl)) hw H
     refine go_region ?_
     refine go_pvs 0 4 [1, 2, 7, 8, 9, 10, 77] hs (L' := [(1, .int .u8 a1), (2, .int .u8 a2), (7, .bool t8), (8, .pointer (some (⟨g27, 0, none⟩ : Addr))), (9, .pointer (some (⟨g51, 0, none⟩ : Addr))), (10, .bool false), (77, .bool ((a1.tmod 5) == 2))]) (by kernel_rfl) ?_ rfl
     clear hs; intro a hs
     cases hb91 : ((a1.tmod 5) == 2)
     ·replace H := ite_f H (beq_eq_false_iff_ne.1 hb91)
      rw [hb91] at hs
      refine go_pvs 4 10 [1, 2, 7, 8, 9, 10, 73] hs (L' := [(1, .int .u8 a1), (2, .int .u8 a2), (7, .bool t8), (8, .pointer (some (⟨g27, 0, none⟩ : Addr))), (9, .pointer (some (⟨g51, 0, none⟩ : Addr))), (10, .bool false), (73, .bool false)]) (by kernel_rfl) ?_ rfl
      clear hs; intro a hs
      refine go_end (by kernel_rfl) ?_
      replace hw := hw.up 14
      replace hw := hw.up 14
      replace hw := hw.up 14
      replace hw := hw.up 14
      replace hw := hw.up 14
      replace hw := hw.up 14
      replace hw := hw.up 14
      replace hw := hw.up 14
      replace hw := hw.up 14
      replace hw := hw.up 14
      replace hw := hw.up 14
      replace hw := hw.up 14
      replace hw := hw.up 14
      replace hw := hw.up 14
      replace hw := hw.up 14
      replace hw := hw.only 15
      exact hJ3 false _ _ (hs.keep [1, 2, 7, 8, 9, 10, 73] (by kernel_rfl)) hw H
     ·replace H := ite_t H (beq_iff_eq.1 hb91)
      rw [hb91] at hs
      refine go_pvs 4 5 [1, 2, 7, 8, 9, 10, 77, 78] hs (L' := [(1, .int .u8 a1), (2, .int .u8 a2), (7, .bool t8), (8, .pointer (some (⟨g27, 0, none⟩ : Addr))), (9, .pointer (some (⟨g51, 0, none⟩ : Addr))), (10, .bool false), (77, .bool true), (78, .pointer (some (((⟨g51, 0, none⟩ : Addr) : Addr).add 2)))]) (by kernel_rfl) ?_ rfl
      clear hs; intro a hs
      refine go_run hs (op := (Op.load 24 (Operand.tmp 78))) (ty := 24) (dst := some 79) (g := some (3, true)) (by kernel_rfl) (by kernel_rfl) (by kernel_rfl) (x_bld (g := g51) (o := 2) (p := ((⟨g51, 0, none⟩ : Addr) : Addr).add 2) (v := .slice Aa44 t38.Syms.length cc45) (hw.up 0) (by kernel_rfl) rfl (by kernel_rfl) (by kernel_rfl)) [1, 2, 7, 8, 9, 10, 77, 79] (L' := [(1, .int .u8 a1), (2, .int .u8 a2), (7, .bool t8), (8, .pointer (some (⟨g27, 0, none⟩ : Addr))), (9, .pointer (some (⟨g51, 0, none⟩ : Addr))), (10, .bool false), (77, .bool true), (79, .slice Aa44 t38.Syms.length cc45)]) (by kernel_rfl) ?_
      clear hs; intro a hs
      refine go_pvs 6 10 [1, 2, 7, 8, 9, 10, 73] hs (L' := [(1, .int .u8 a1), (2, .int .u8 a2), (7, .bool t8), (8, .pointer (some (⟨g27, 0, none⟩ : Addr))), (9, .pointer (some (⟨g51, 0, none⟩ : Addr))), (10, .bool false), (73, .bool (decide ((t38.Syms.length : Int) > 0)))]) (by kernel_rfl) ?_ rfl
      clear hs; intro a hs
      refine go_end (by kernel_rfl) ?_
      replace hw := hw.up 14
      replace hw := hw.up 14
      replace hw := hw.up 14
      replace hw := hw.up 14
      replace hw := hw.up 14
      replace hw := hw.up 14
      replace hw := hw.up 14
      replace hw := hw.up 14
      replace hw := hw.up 14
      replace hw := hw.up 14
      replace hw := hw.up 14
      replace hw := hw.up 14
      replace hw := hw.up 14
      replace hw := hw.up 14
      replace hw := hw.up 14
      replace hw := hw.only 15
      exact hJ3 (decide ((t38.Syms.length : Int) > 0)) _ _ (hs.keep [1, 2, 7, 8, 9, 10, 73] (by kernel_rfl)) hw H
   refine go_region ?_
   refine go_pvs 0 4 [1, 2, 7, 8, 9, 10, 59] hs (L' := [(1, .int .u8 a1), (2, .int .u8 a2), (7, .bool t8), (8, .pointer (some (⟨g27, 0, none⟩ : Addr))), (9, .pointer (some (⟨g51, 0, none⟩ : Addr))), (10, .bool false), (59, .bool ((a1.tmod 5) == 1))]) (by kernel_rfl) ?_ rfl
   clear hs; intro a hs
   cases hb77 : ((a1.tmod 5) == 1)
   ·replace H := ite_f H (beq_eq_false_iff_ne.1 hb77)
    rw [hb77] at hs
    refine go_pvs 4 10 [1, 2, 7, 8, 9, 10, 55] hs (L' := [(1, .int .u8 a1), (2, .int .u8 a2), (7, .bool t8), (8, .pointer (some (⟨g27, 0, none⟩ : Addr))), (9, .pointer (some (⟨g51, 0, none⟩ : Addr))), (10, .bool false), (55, .bool false)]) (by kernel_rfl) ?_ rfl
    clear hs; intro a hs
    refine go_end (by kernel_rfl) ?_
    replace hw := hw.up 14
    replace hw := hw.up 14
    replace hw := hw.up 14
    replace hw := hw.up 14
    replace hw := hw.up 14
    replace hw := hw.up 14
    replace hw := hw.up 14
    replace hw := hw.up 14
    replace hw := hw.up 14
    replace hw := hw.up 14
    replace hw := hw.up 14
    replace hw := hw.up 14
    replace hw := hw.up 14
    replace hw := hw.up 14
    replace hw := hw.up 14
    replace hw := hw.only 15
    exact hJ2 false _ _ (hs.keep [1, 2, 7, 8, 9, 10, 55] (by kernel_rfl)) hw H
   ·replace H := ite_t H (beq_iff_eq.1 hb77)
    rw [hb77] at hs
    refine go_pvs 4 5 [1, 2, 7, 8, 9, 10, 59, 60] hs (L' := [(1, .int .u8 a1), (2, .int .u8 a2), (7, .bool t8), (8, .pointer (some (⟨g27, 0, none⟩ : Addr))), (9, .pointer (some (⟨g51, 0, none⟩ : Addr))), (10, .bool false), (59, .bool true), (60, .pointer (some (((⟨g51, 0, none⟩ : Addr) : Addr).add 1)))]) (by kernel_rfl) ?_ rfl
    clear hs; intro a hs
    refine go_run hs (op := (Op.load 23 (Operand.tmp 60))) (ty := 23) (dst := some 61) (g := some (3, true)) (by kernel_rfl) (by kernel_rfl) (by kernel_rfl) (x_bld (g := g51) (o := 1) (p := ((⟨g51, 0, none⟩ : Addr) : Addr).add 1) (v := .slice Aa42 t38.Sites.length cc43) (hw.up 0) (by kernel_rfl) rfl (by kernel_rfl) (by kernel_rfl)) [1, 2, 7, 8, 9, 10, 59, 61] (L' := [(1, .int .u8 a1), (2, .int .u8 a2), (7, .bool t8), (8, .pointer (some (⟨g27, 0, none⟩ : Addr))), (9, .pointer (some (⟨g51, 0, none⟩ : Addr))), (10, .bool false), (59, .bool true), (61, .slice Aa42 t38.Sites.length cc43)]) (by kernel_rfl) ?_
    clear hs; intro a hs
    refine go_pvs 6 10 [1, 2, 7, 8, 9, 10, 55] hs (L' := [(1, .int .u8 a1), (2, .int .u8 a2), (7, .bool t8), (8, .pointer (some (⟨g27, 0, none⟩ : Addr))), (9, .pointer (some (⟨g51, 0, none⟩ : Addr))), (10, .bool false), (55, .bool (decide ((t38.Sites.length : Int) > 0)))]) (by kernel_rfl) ?_ rfl
    clear hs; intro a hs
    refine go_end (by kernel_rfl) ?_
    replace hw := hw.up 14
    replace hw := hw.up 14
    replace hw := hw.up 14
    replace hw := hw.up 14
    replace hw := hw.up 14
    replace hw := hw.up 14
    replace hw := hw.up 14
    replace hw := hw.up 14
    replace hw := hw.up 14
    replace hw := hw.up 14
    replace hw := hw.up 14
    replace hw := hw.up 14
    replace hw := hw.up 14
    replace hw := hw.up 14
    replace hw := hw.up 14
    replace hw := hw.only 15
    exact hJ2 (decide ((t38.Sites.length : Int) > 0)) _ _ (hs.keep [1, 2, 7, 8, 9, 10, 55] (by kernel_rfl)) hw H
 refine go_region ?_
 refine go_pvs 0 4 [1, 2, 7, 8, 9, 10, 33] hs (L' := [(1, .int .u8 a1), (2, .int .u8 a2), (7, .bool t8), (8, .pointer (some (⟨g27, 0, none⟩ : Addr))), (9, .pointer (some (⟨g51, 0, none⟩ : Addr))), (10, .bool false), (33, .bool ((a1.tmod 5) == 0))]) (by kernel_rfl) ?_ rfl
 clear hs; intro a hs
 cases hb63 : ((a1.tmod 5) == 0)
 ·replace H := ite_f H (beq_eq_false_iff_ne.1 hb63)
  rw [hb63] at hs
  refine go_pvs 4 10 [1, 2, 7, 8, 9, 10, 29] hs (L' := [(1, .int .u8 a1), (2, .int .u8 a2), (7, .bool t8), (8, .pointer (some (⟨g27, 0, none⟩ : Addr))), (9, .pointer (some (⟨g51, 0, none⟩ : Addr))), (10, .bool false), (29, .bool false)]) (by kernel_rfl) ?_ rfl
  clear hs; intro a hs
  refine go_end (by kernel_rfl) ?_
  replace hw := hw.up 14
  replace hw := hw.up 14
  replace hw := hw.up 14
  replace hw := hw.up 14
  replace hw := hw.up 14
  replace hw := hw.up 14
  replace hw := hw.up 14
  replace hw := hw.up 14
  replace hw := hw.up 14
  replace hw := hw.up 14
  replace hw := hw.up 14
  replace hw := hw.up 14
  replace hw := hw.up 14
  replace hw := hw.up 14
  replace hw := hw.up 14
  replace hw := hw.only 15
  exact hJ1 false _ _ (hs.keep [1, 2, 7, 8, 9, 10, 29] (by kernel_rfl)) hw H
 ·replace H := ite_t H (beq_iff_eq.1 hb63)
  rw [hb63] at hs
  refine go_pvs 4 5 [1, 2, 7, 8, 9, 10, 33, 34] hs (L' := [(1, .int .u8 a1), (2, .int .u8 a2), (7, .bool t8), (8, .pointer (some (⟨g27, 0, none⟩ : Addr))), (9, .pointer (some (⟨g51, 0, none⟩ : Addr))), (10, .bool false), (33, .bool true), (34, .pointer (some (((⟨g51, 0, none⟩ : Addr) : Addr).add 0)))]) (by kernel_rfl) ?_ rfl
  clear hs; intro a hs
  refine go_run hs (op := (Op.load 22 (Operand.tmp 34))) (ty := 22) (dst := some 35) (g := some (3, true)) (by kernel_rfl) (by kernel_rfl) (by kernel_rfl) (x_bld (g := g51) (o := 0) (p := ((⟨g51, 0, none⟩ : Addr) : Addr).add 0) (v := .slice Aa40 t38.Words.length cc41) (hw.up 0) (by kernel_rfl) rfl (by kernel_rfl) (by kernel_rfl)) [1, 2, 7, 8, 9, 10, 33, 35] (L' := [(1, .int .u8 a1), (2, .int .u8 a2), (7, .bool t8), (8, .pointer (some (⟨g27, 0, none⟩ : Addr))), (9, .pointer (some (⟨g51, 0, none⟩ : Addr))), (10, .bool false), (33, .bool true), (35, .slice Aa40 t38.Words.length cc41)]) (by kernel_rfl) ?_
  clear hs; intro a hs
  refine go_pvs 6 10 [1, 2, 7, 8, 9, 10, 29] hs (L' := [(1, .int .u8 a1), (2, .int .u8 a2), (7, .bool t8), (8, .pointer (some (⟨g27, 0, none⟩ : Addr))), (9, .pointer (some (⟨g51, 0, none⟩ : Addr))), (10, .bool false), (29, .bool (decide ((t38.Words.length : Int) > 0)))]) (by kernel_rfl) ?_ rfl
  clear hs; intro a hs
  refine go_end (by kernel_rfl) ?_
  replace hw := hw.up 14
  replace hw := hw.up 14
  replace hw := hw.up 14
  replace hw := hw.up 14
  replace hw := hw.up 14
  replace hw := hw.up 14
  replace hw := hw.up 14
  replace hw := hw.up 14
  replace hw := hw.up 14
  replace hw := hw.up 14
  replace hw := hw.up 14
  replace hw := hw.up 14
  replace hw := hw.up 14
  replace hw := hw.up 14
  replace hw := hw.up 14
  replace hw := hw.only 15
  exact hJ1 (decide ((t38.Words.length : Int) > 0)) _ _ (hs.keep [1, 2, 7, 8, 9, 10, 29] (by kernel_rfl)) hw H

end Go.Proofs.YtmfnololpfdfdaaDoor.T09
