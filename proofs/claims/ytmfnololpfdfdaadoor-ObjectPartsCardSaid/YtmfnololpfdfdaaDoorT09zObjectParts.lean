/- YtmfnololpfdfdaaDoorT09zObjectParts: Go functions told as plain ones, each with a proof that its call comes to what is told, part 1. Condition of each: that the plain function comes to a value. -/
import Derived.Test.YtmfnololpfdfdaaDoorT09
import Derived.Test.YtmfnololpfdfdaaDoorEN
import Derived.Test.YtmfnololpfdfdaaDoorProg
namespace Go.Proofs.YtmfnololpfdfdaaDoor.T09
open Go Go.RowKit Go.Proofs.YtmfnololpfdfdaaDoor.E
set_option linter.unusedVariables false
set_option linter.unusedSimpArgs false
structure Srivetlaw09_Parts where
  Words : List Int
  Bits : List Int
  Names : List ByteArray
def okSrivetlaw09_Parts (x : Srivetlaw09_Parts) : Prop := (∀ n ∈ x.Words, In .u32 n) ∧ x.Words.length * 4 ≤ 140737488351232 ∧ (∀ n ∈ x.Bits, In .u8 n) ∧ x.Bits.length * 1 ≤ 140737488351232 ∧ (∀ n ∈ x.Names, n.size ≤ 140737488351232) ∧ x.Names.length * 16 ≤ 140737488351232
def mSrivetlaw09_Parts (A : Option Addr) (x : Srivetlaw09_Parts) : Asn := fun L => ∃ g A1 c1 A2 c2 A3 c3, A = some ⟨g, 0, none⟩ ∧ Cov [box g 35 [.slice A1 x.Words.length c1, .slice A2 x.Bits.length c2, .slice A3 x.Names.length c3], own 37 (eI .u32) A1 c1 x.Words, own 5 (eI .u8) A2 c2 x.Bits, own 9 eS A3 c3 x.Names] L
theorem mSrivetlaw09_Parts.open {G : List Nat} {w0 w : World} {As : List Asn} {A : Option Addr} {x : Srivetlaw09_Parts} (h : St G w0 w (mSrivetlaw09_Parts A x :: As)) : ∃ g A1 c1 A2 c2 A3 c3, A = some ⟨g, 0, none⟩ ∧ St G w0 w ([box g 35 [.slice A1 x.Words.length c1, .slice A2 x.Bits.length c2, .slice A3 x.Names.length c3], own 37 (eI .u32) A1 c1 x.Words, own 5 (eI .u8) A2 c2 x.Bits, own 9 eS A3 c3 x.Names] ++ As) := by
  obtain ⟨L, ⟨L1, L2, rfl, ⟨g, A1, c1, A2, c2, A3, c3, rfl, hc⟩, hr⟩, hs⟩ := h
  exact ⟨g, A1, c1, A2, c2, A3, c3, rfl, _, Cov.join hr hc, hs⟩
theorem mSrivetlaw09_Parts.open1 {G : List Nat} {w0 w : World} {As : List Asn} {g : Nat} {x : Srivetlaw09_Parts} (h : St G w0 w (mSrivetlaw09_Parts (some ⟨g, 0, none⟩) x :: As)) : ∃ A1 c1 A2 c2 A3 c3, St G w0 w ([box g 35 [.slice A1 x.Words.length c1, .slice A2 x.Bits.length c2, .slice A3 x.Names.length c3], own 37 (eI .u32) A1 c1 x.Words, own 5 (eI .u8) A2 c2 x.Bits, own 9 eS A3 c3 x.Names] ++ As) := by
  obtain ⟨g', A1, c1, A2, c2, A3, c3, hg, h⟩ := mSrivetlaw09_Parts.open h
  cases hg
  exact ⟨A1, c1, A2, c2, A3, c3, h⟩
theorem mSrivetlaw09_Parts.close {G : List Nat} {w0 w : World} {As : List Asn} {g : Nat} {A1 : Option Addr} {c1 : Nat} {A2 : Option Addr} {c2 : Nat} {A3 : Option Addr} {c3 : Nat} {x : Srivetlaw09_Parts} (h : St G w0 w ([box g 35 [.slice A1 x.Words.length c1, .slice A2 x.Bits.length c2, .slice A3 x.Names.length c3], own 37 (eI .u32) A1 c1 x.Words, own 5 (eI .u8) A2 c2 x.Bits, own 9 eS A3 c3 x.Names] ++ As)) : St G w0 w (mSrivetlaw09_Parts (some ⟨g, 0, none⟩) x :: As) := by
  obtain ⟨L, hc, hs⟩ := h
  obtain ⟨L1, L2, rfl, h1, h2⟩ := Cov.split (Gs := [box g 35 [.slice A1 x.Words.length c1, .slice A2 x.Bits.length c2, .slice A3 x.Names.length c3], own 37 (eI .u32) A1 c1 x.Words, own 5 (eI .u8) A2 c2 x.Bits, own 9 eS A3 c3 x.Names]) hc
  exact ⟨_, ⟨L1, L2, rfl, ⟨g, A1, c1, A2, c2, A3, c3, rfl, h1⟩, h2⟩, hs⟩
/-! rivet/rivetlaw09.ObjectParts: function 5 -/
noncomputable def rivetlaw09_ObjectParts.j1 (v65 : Int) (l94 : List Int) (v97 : Bool) : Option ((List Int) × Bool × Int ⊕ ((List Int) × Bool)) := some (.inl (l94, v97, w64 (v65 + 1)))
noncomputable def rivetlaw09_ObjectParts.j3 (v109 : Int) (l133 : List Sapi_Sym) : Option ((List Sapi_Sym) × Int ⊕ (List Sapi_Sym)) := some (.inl (l133, w64 (v109 + 1)))
noncomputable def rivetlaw09_ObjectParts.j5 (v168 : Bool) : Option Bool := some v168
noncomputable def rivetlaw09_ObjectParts.j4 (t14 : Sapi_Obj) (y38 : Int) (l99 : List Int) (t8 : Bool) (v102 : Bool) (l137 : List Sapi_Sym) : Option Bool := ((object_May (⟨t14.Words.take (y38 : Int).toNat, l99, l137⟩ : Sapi_Obj)).bind fun t142 => ((if t8 = true then ((object_May (⟨t14.Words, t14.Sites, ([] : List Sapi_Sym)⟩ : Sapi_Obj)).bind fun t149 => ((if t149 = 0 then ((object_May (⟨t14.Words, ([] : List Int), t14.Syms⟩ : Sapi_Obj)).bind fun t155 => ((if t155 = 0 then ((object_May (⟨t14.Words, ([] : List Int), ([] : List Sapi_Sym)⟩ : Sapi_Obj)).bind fun t161 => ((if t161 = 0 then (if ((t142 == 0) == v102) = true then (if v102 = true then rivetlaw09_ObjectParts.j5 true else rivetlaw09_ObjectParts.j5 (t142 == 8)) else rivetlaw09_ObjectParts.j5 false) else rivetlaw09_ObjectParts.j5 false))) else rivetlaw09_ObjectParts.j5 false))) else rivetlaw09_ObjectParts.j5 false))) else rivetlaw09_ObjectParts.j5 false)))
noncomputable def rivetlaw09_ObjectParts.b105 (t14 : Sapi_Obj) (y38 : Int) (l106 : List Sapi_Sym) (v109 : Int) : Option ((List Sapi_Sym) × Int ⊕ (List Sapi_Sym)) := (if v109 < (t14.Syms.length : Int) then (if 0 ≤ v109 ∧ v109 < (t14.Syms.length : Int) then (if ((ix eSapi_Sym.d t14.Syms v109).At) ≤ (w64 (4 * y38)) then (if 0 ≤ v109 ∧ v109 < (t14.Syms.length : Int) then (if l106.length + ([(ix eSapi_Sym.d t14.Syms v109)] : List Sapi_Sym).length ≤ 5864062014805 then rivetlaw09_ObjectParts.j3 v109 (l106 ++ ([(ix eSapi_Sym.d t14.Syms v109)] : List Sapi_Sym)) else none) else none) else rivetlaw09_ObjectParts.j3 v109 l106) else none) else some (.inr l106))
noncomputable def rivetlaw09_ObjectParts.j2 (t14 : Sapi_Obj) (y38 : Int) (t8 : Bool) (l99 : List Int) (v102 : Bool) : Option Bool := ((loopO (fun (σ : (List Sapi_Sym) × Int) => rivetlaw09_ObjectParts.b105 t14 y38 σ.1 σ.2) (([] : List Sapi_Sym), 0)).bind fun e => rivetlaw09_ObjectParts.j4 t14 y38 l99 t8 v102 e)
noncomputable def rivetlaw09_ObjectParts.b60 (t14 : Sapi_Obj) (y38 : Int) (l61 : List Int) (v64 : Bool) (v65 : Int) : Option ((List Int) × Bool × Int ⊕ ((List Int) × Bool)) := (if v65 < (t14.Sites.length : Int) then (if 0 ≤ v65 ∧ v65 < (t14.Sites.length : Int) then (if (ix (eI .i64).d t14.Sites v65) < y38 then (if 0 ≤ v65 ∧ v65 < (t14.Sites.length : Int) then (if l61.length + ([(ix (eI .i64).d t14.Sites v65)] : List Int).length ≤ 17592186044416 then (if v64 = true then (if 0 ≤ v65 ∧ v65 < (t14.Sites.length : Int) then (if 0 ≤ (ix (eI .i64).d t14.Sites v65) ∧ (ix (eI .i64).d t14.Sites v65) < (t14.Words.length : Int) then rivetlaw09_ObjectParts.j1 v65 (l61 ++ ([(ix (eI .i64).d t14.Sites v65)] : List Int)) (decide ((w64 (ix (eI .u32).d t14.Words (ix (eI .i64).d t14.Sites v65))) ≤ (w64 (4 * y38)))) else none) else none) else rivetlaw09_ObjectParts.j1 v65 (l61 ++ ([(ix (eI .i64).d t14.Sites v65)] : List Int)) false) else none) else none) else rivetlaw09_ObjectParts.j1 v65 l61 v64) else none) else some (.inr (l61, v64)))
noncomputable def rivetlaw09_ObjectParts (a0 : Srivetlaw09_Parts) (a1 : Int) : Option Bool := ((rivetlaw09_shown).bind fun t8 => (((rivetref09_Fit a0.Words a0.Bits a0.Names).bind fun t14 => ((if (w64 ((t14.Words.length : Int) + 1)) ≠ 0 then (nm ((w64 a1).tmod (w64 ((t14.Words.length : Int) + 1))) fun y38 => (if 0 ≤ y38 ∧ y38 ≤ (t14.Words.length : Int) then ((loopO (fun (σ : (List Int) × Bool × Int) => rivetlaw09_ObjectParts.b60 t14 y38 σ.1 σ.2.1 σ.2.2) (([] : List Int), true, 0)).bind fun e => rivetlaw09_ObjectParts.j2 t14 y38 t8 e.1 e.2) else none)) else none)))))
set_option maxRecDepth 100000 in
set_option maxHeartbeats 4000000 in
theorem rivetlaw09_ObjectParts.calls (a0 : Srivetlaw09_Parts) (A0_1 : Option Addr) (c0_1 : Nat) (A0_2 : Option Addr) (c0_2 : Nat) (A0_3 : Option Addr) (c0_3 : Nat) (a1 : Int) (r : Bool) (w0 : World) (hr0_1 : Rd w0 (eI .u32) A0_1 c0_1 a0.Words) (hr0_2 : Rd w0 (eI .u8) A0_2 c0_2 a0.Bits) (hr0_3 : Rd w0 eS A0_3 c0_3 a0.Names) (H : rivetlaw09_ObjectParts a0 a1 = some r) :
    Calls Tryd.prog 5 #[.agg #[.slice A0_1 a0.Words.length c0_1, .slice A0_2 a0.Bits.length c0_2, .slice A0_3 a0.Names.length c0_3], .int .u8 a1] w0 fun e w' => e = .returned (.bool r) ∧ St [] w0 w' [] := by
 have hw : St [] w0 w0 [] := St.nil w0
 unfold rivetlaw09_ObjectParts at H
 refine go_fn Tryd.func5 rfl 140 Tryd.ntmps5 [(0, .agg #[.slice A0_1 a0.Words.length c0_1, .slice A0_2 a0.Bits.length c0_2, .slice A0_3 a0.Names.length c0_3]), (1, .int .u8 a1)] (by kernel_rfl) rfl ?_
 intro a hs
 refine go_seq_k fun K1 hK1 => ?_
 refine go_region ?_
 obtain ⟨g2, wd3, hx4, hw⟩ := x_boxc (P := Tryd.prog) (elem := 35) (v := (Operand.tmp 0)) (ty := 0) (cs := [.slice A0_1 a0.Words.length c0_1, .slice A0_2 a0.Bits.length c0_2, .slice A0_3 a0.Names.length c0_3]) hs hw (by kernel_rfl)
 refine go_run hs (op := (Op.box 35 (Operand.tmp 0))) (ty := 0) (dst := some 2) (g := none) (by kernel_rfl) (by kernel_rfl) (by kernel_rfl) hx4 [1, 2] (L' := [(1, .int .u8 a1), (2, .pointer (some (⟨g2, 0, none⟩ : Addr)))]) (by kernel_rfl) ?_
 clear hs; intro a hs
 refine go_pvs 1 2 [1, 2] hs (L' := [(1, .int .u8 a1), (2, .pointer (some (⟨g2, 0, none⟩ : Addr)))]) (by kernel_rfl) ?_ rfl
 clear hs; intro a hs
 refine go_end (by kernel_rfl) ?_
 refine hK1 _ _ ?_
 refine go_seq_k fun K6 hK6 => ?_
 refine go_region ?_
 obtain ⟨t8, hx9, H⟩ := bind_some H
 refine go_call hs (op := (Op.call { callee := (Callee.value (Operand.func 13)), args := #[], argTypes := #[] })) (ty := 4) (dst := some 13) (g := none) (by kernel_rfl) (by kernel_rfl) (by kernel_rfl) (f := 13) (args := #[]) (by kernel_rfl) (rivetlaw09_shown.calls t8 _ hx9) ?_
 rintro e wd10 ⟨rfl, hw11⟩
 refine ⟨_, rfl, ?_⟩
 replace hw := hw.call hw11
 intro a hs1
 replace hs : Slots a 140 [(1, .int .u8 a1), (2, .pointer (some (⟨g2, 0, none⟩ : Addr))), (13, .bool t8)] := hs1.keep [1, 2, 13] (by kernel_rfl)
 clear hs1
 refine go_pvs 1 2 [1, 2, 5] hs (L' := [(1, .int .u8 a1), (2, .pointer (some (⟨g2, 0, none⟩ : Addr))), (5, .bool t8)]) (by kernel_rfl) ?_ rfl
 clear hs; intro a hs
 refine go_end (by kernel_rfl) ?_
 refine hK6 _ _ ?_
 refine go_seq_k fun K12 hK12 => ?_
 refine go_region ?_
 refine go_pvs 0 1 [1, 2, 5, 14] hs (L' := [(1, .int .u8 a1), (2, .pointer (some (⟨g2, 0, none⟩ : Addr))), (5, .bool t8), (14, .pointer (some (((⟨g2, 0, none⟩ : Addr) : Addr).add 0)))]) (by kernel_rfl) ?_ rfl
 clear hs; intro a hs
 refine go_run hs (op := (Op.load 22 (Operand.tmp 14))) (ty := 22) (dst := some 15) (g := none) (by kernel_rfl) (by kernel_rfl) (by kernel_rfl) (x_bld (g := g2) (o := 0) (p := ((⟨g2, 0, none⟩ : Addr) : Addr).add 0) (v := .slice A0_1 a0.Words.length c0_1) (hw.up 0) (by kernel_rfl) rfl (by kernel_rfl) (by kernel_rfl)) [1, 2, 5, 15] (L' := [(1, .int .u8 a1), (2, .pointer (some (⟨g2, 0, none⟩ : Addr))), (5, .bool t8), (15, .slice A0_1 a0.Words.length c0_1)]) (by kernel_rfl) ?_
 clear hs; intro a hs
 refine go_pvs 2 3 [1, 2, 5, 15, 16] hs (L' := [(1, .int .u8 a1), (2, .pointer (some (⟨g2, 0, none⟩ : Addr))), (5, .bool t8), (15, .slice A0_1 a0.Words.length c0_1), (16, .pointer (some (((⟨g2, 0, none⟩ : Addr) : Addr).add 1)))]) (by kernel_rfl) ?_ rfl
 clear hs; intro a hs
 refine go_run hs (op := (Op.load 32 (Operand.tmp 16))) (ty := 32) (dst := some 17) (g := none) (by kernel_rfl) (by kernel_rfl) (by kernel_rfl) (x_bld (g := g2) (o := 1) (p := ((⟨g2, 0, none⟩ : Addr) : Addr).add 1) (v := .slice A0_2 a0.Bits.length c0_2) (hw.up 0) (by kernel_rfl) rfl (by kernel_rfl) (by kernel_rfl)) [1, 2, 5, 15, 17] (L' := [(1, .int .u8 a1), (2, .pointer (some (⟨g2, 0, none⟩ : Addr))), (5, .bool t8), (15, .slice A0_1 a0.Words.length c0_1), (17, .slice A0_2 a0.Bits.length c0_2)]) (by kernel_rfl) ?_
 clear hs; intro a hs
 refine go_pvs 4 5 [1, 5, 15, 17, 18] hs (L' := [(1, .int .u8 a1), (5, .bool t8), (15, .slice A0_1 a0.Words.length c0_1), (17, .slice A0_2 a0.Bits.length c0_2), (18, .pointer (some (((⟨g2, 0, none⟩ : Addr) : Addr).add 2)))]) (by kernel_rfl) ?_ rfl
 clear hs; intro a hs
 refine go_run hs (op := (Op.load 33 (Operand.tmp 18))) (ty := 33) (dst := some 19) (g := none) (by kernel_rfl) (by kernel_rfl) (by kernel_rfl) (x_bld (g := g2) (o := 2) (p := ((⟨g2, 0, none⟩ : Addr) : Addr).add 2) (v := .slice A0_3 a0.Names.length c0_3) (hw.up 0) (by kernel_rfl) rfl (by kernel_rfl) (by kernel_rfl)) [1, 5, 15, 17, 19] (L' := [(1, .int .u8 a1), (5, .bool t8), (15, .slice A0_1 a0.Words.length c0_1), (17, .slice A0_2 a0.Bits.length c0_2), (19, .slice A0_3 a0.Names.length c0_3)]) (by kernel_rfl) ?_
 clear hs; intro a hs
 obtain ⟨t14, hx15, H⟩ := bind_some H
 refine go_call hs (op := (Op.call { callee := (Callee.value (Operand.func 19)), args := #[(Operand.tmp 15), (Operand.tmp 17), (Operand.tmp 19)], argTypes := #[22, 32, 33] })) (ty := 26) (dst := some 20) (g := none) (by kernel_rfl) (by kernel_rfl) (by kernel_rfl) (f := 19) (args := #[.slice A0_1 a0.Words.length c0_1, .slice A0_2 a0.Bits.length c0_2, .slice A0_3 a0.Names.length c0_3]) (by kernel_rfl) (rivetref09_Fit.calls A0_1 c0_1 a0.Words A0_2 c0_2 a0.Bits A0_3 c0_3 a0.Names t14 _ (hr0_1.old hw) (hr0_2.old hw) (hr0_3.old hw) hx15) ?_
 rintro e wd22 ⟨Aa16, cc17, Aa18, cc19, Aa20, cc21, rfl, hw23⟩
 refine ⟨_, rfl, ?_⟩
 replace hw := hw.call hw23
 intro a hs1
 replace hs : Slots a 140 [(1, .int .u8 a1), (5, .bool t8), (20, .agg #[.slice Aa16 t14.Words.length cc17, .slice Aa18 t14.Sites.length cc19, .slice Aa20 t14.Syms.length cc21])] := hs1.keep [1, 5, 20] (by kernel_rfl)
 clear hs1
 obtain ⟨g27, wd28, hx29, hw⟩ := x_allocc (P := Tryd.prog) (elem := 26) (ty := 0) (z := .agg #[.slice none 0 0, .slice none 0 0, .slice none 0 0]) (cs := [.slice none 0 0, .slice none 0 0, .slice none 0 0]) hs hw (by kernel_rfl) (by kernel_rfl)
 refine go_run hs (op := (Op.alloc 26)) (ty := 0) (dst := some 6) (g := none) (by kernel_rfl) (by kernel_rfl) (by kernel_rfl) hx29 [1, 5, 6, 20] (L' := [(1, .int .u8 a1), (5, .bool t8), (6, .pointer (some (⟨g27, 0, none⟩ : Addr))), (20, .agg #[.slice Aa16 t14.Words.length cc17, .slice Aa18 t14.Sites.length cc19, .slice Aa20 t14.Syms.length cc21])]) (by kernel_rfl) ?_
 clear hs; intro a hs
 replace hw := St.own_nil hw 37 (eI .u32)
 replace hw := St.own_nil hw 3 (eI .i64)
 replace hw := St.own_nil hw 39 eSapi_Sym
 replace hw : St [] w0 wd28 [own 39 eSapi_Sym none 0 ([] : List Sapi_Sym), own 3 (eI .i64) none 0 ([] : List Int), own 37 (eI .u32) none 0 ([] : List Int), box g27 26 [.slice none ([] : List Int).length 0, .slice none ([] : List Int).length 0, .slice none ([] : List Sapi_Sym).length 0], own 37 (eI .u32) Aa16 cc17 t14.Words, own 3 (eI .i64) Aa18 cc19 t14.Sites, own 39 eSapi_Sym Aa20 cc21 t14.Syms, box g2 35 [.slice A0_1 a0.Words.length c0_1, .slice A0_2 a0.Bits.length c0_2, .slice A0_3 a0.Names.length c0_3]] := hw
 replace hw := hw.up 3
 obtain ⟨wd34, hx35, hw⟩ := x_bput (P := Tryd.prog) (ty := 0) (t := 26) (y := (Operand.tmp 6)) (z := (Operand.tmp 20)) (o := 0) (p := (⟨g27, 0, none⟩ : Addr)) (v := .agg #[.slice Aa16 t14.Words.length cc17, .slice Aa18 t14.Sites.length cc19, .slice Aa20 t14.Syms.length cc21]) (vs := [.slice Aa16 t14.Words.length cc17, .slice Aa18 t14.Sites.length cc19, .slice Aa20 t14.Syms.length cc21]) (cs' := [.slice Aa16 t14.Words.length cc17, .slice Aa18 t14.Sites.length cc19, .slice Aa20 t14.Syms.length cc21]) hs hw (by kernel_rfl) rfl (by kernel_rfl) rfl (by kernel_rfl) (by kernel_rfl) (by simp [Value.oneCell']) rfl
 refine go_unit hs (op := (Op.store 26 (Operand.tmp 6) (Operand.tmp 20))) (ty := 0) (dst := none) (g := none) (by kernel_rfl) (by kernel_rfl) (by kernel_rfl) hx35 [1, 5, 6] (L' := [(1, .int .u8 a1), (5, .bool t8), (6, .pointer (some (⟨g27, 0, none⟩ : Addr)))]) (by kernel_rfl) ?_
 clear hs; intro a hs
 refine go_end (by kernel_rfl) ?_
 refine hK12 _ _ ?_
 refine go_seq_k fun K36 hK36 => ?_
 refine go_region ?_
 refine go_pvs 0 3 [5, 6, 22, 23] hs (L' := [(5, .bool t8), (6, .pointer (some (⟨g27, 0, none⟩ : Addr))), (22, .int .i64 (w64 a1)), (23, .pointer (some (((⟨g27, 0, none⟩ : Addr) : Addr).add 0)))]) (by kernel_rfl) ?_ rfl
 clear hs; intro a hs
 refine go_run hs (op := (Op.load 22 (Operand.tmp 23))) (ty := 22) (dst := some 24) (g := none) (by kernel_rfl) (by kernel_rfl) (by kernel_rfl) (x_bld (g := g27) (o := 0) (p := ((⟨g27, 0, none⟩ : Addr) : Addr).add 0) (v := .slice Aa16 t14.Words.length cc17) (hw.up 0) (by kernel_rfl) rfl (by kernel_rfl) (by kernel_rfl)) [5, 6, 22, 24] (L' := [(5, .bool t8), (6, .pointer (some (⟨g27, 0, none⟩ : Addr))), (22, .int .i64 (w64 a1)), (24, .slice Aa16 t14.Words.length cc17)]) (by kernel_rfl) ?_
 clear hs; intro a hs
 refine go_pvs 4 6 [5, 6, 22, 26] hs (L' := [(5, .bool t8), (6, .pointer (some (⟨g27, 0, none⟩ : Addr))), (22, .int .i64 (w64 a1)), (26, .int .i64 (w64 ((t14.Words.length : Int) + 1)))]) (by kernel_rfl) ?_ rfl
 clear hs; intro a hs
 obtain ⟨hp37, H⟩ := ite_only H
 refine go_run hs (op := (Op.binOp BinOp.rem 3 (Operand.tmp 22) (Operand.tmp 26) 3)) (ty := 3) (dst := some 27) (g := none) (by kernel_rfl) (by kernel_rfl) (by kernel_rfl) (x_rem (k := .i64) (m := w64 a1) (n := w64 ((t14.Words.length : Int) + 1)) (by kernel_rfl) (by kernel_rfl) hp37) [5, 6, 27] (L' := [(5, .bool t8), (6, .pointer (some (⟨g27, 0, none⟩ : Addr))), (27, .int .i64 ((w64 a1).tmod (w64 ((t14.Words.length : Int) + 1))))]) (by kernel_rfl) ?_
 clear hs; intro a hs
 refine go_pvs 7 8 [5, 6, 7] hs (L' := [(5, .bool t8), (6, .pointer (some (⟨g27, 0, none⟩ : Addr))), (7, .int .i64 ((w64 a1).tmod (w64 ((t14.Words.length : Int) + 1))))]) (by kernel_rfl) ?_ rfl
 clear hs; intro a hs
 obtain ⟨y38, hy38, H⟩ := nm_some H
 replace hs : Slots a 140 [(5, .bool t8), (6, .pointer (some (⟨g27, 0, none⟩ : Addr))), (7, .int .i64 y38)] := by rw [hy38]; exact hs
 refine go_end (by kernel_rfl) ?_
 refine hK36 _ _ ?_
 refine go_seq_k fun K39 hK39 => ?_
 refine go_region ?_
 refine go_pvs 0 1 [5, 6, 7, 28] hs (L' := [(5, .bool t8), (6, .pointer (some (⟨g27, 0, none⟩ : Addr))), (7, .int .i64 y38), (28, .pointer (some (((⟨g27, 0, none⟩ : Addr) : Addr).add 0)))]) (by kernel_rfl) ?_ rfl
 clear hs; intro a hs
 refine go_run hs (op := (Op.load 22 (Operand.tmp 28))) (ty := 22) (dst := some 29) (g := none) (by kernel_rfl) (by kernel_rfl) (by kernel_rfl) (x_bld (g := g27) (o := 0) (p := ((⟨g27, 0, none⟩ : Addr) : Addr).add 0) (v := .slice Aa16 t14.Words.length cc17) (hw.up 0) (by kernel_rfl) rfl (by kernel_rfl) (by kernel_rfl)) [5, 6, 7, 29] (L' := [(5, .bool t8), (6, .pointer (some (⟨g27, 0, none⟩ : Addr))), (7, .int .i64 y38), (29, .slice Aa16 t14.Words.length cc17)]) (by kernel_rfl) ?_
 clear hs; intro a hs
 refine go_pvs 2 3 [5, 6, 7, 29, 30] hs (L' := [(5, .bool t8), (6, .pointer (some (⟨g27, 0, none⟩ : Addr))), (7, .int .i64 y38), (29, .slice Aa16 t14.Words.length cc17), (30, .int .i64 y38)]) (by kernel_rfl) ?_ rfl
 clear hs; intro a hs
 obtain ⟨hp40, H⟩ := ite_only H
 obtain ⟨Aa41, cc42, hx43, hc44⟩ := c_hi (P := Tryd.prog) (ty := 22) (E := (eI .u32)) (T := 37) (t := 22) (x := (Operand.tmp 29)) (y := (Operand.tmp 30)) (k := .i64) hs (by kernel_rfl) (by kernel_rfl) (Rd.of_own (hw.up 4)) (by kernel_rfl) (by kernel_rfl) hp40.1 hp40.2
 refine go_run hs (op := (Op.slice 22 (Operand.tmp 29) none (some (Operand.tmp 30)) none)) (ty := 22) (dst := some 31) (g := none) (by kernel_rfl) (by kernel_rfl) (by kernel_rfl) hx43 [5, 6, 7, 31] (L' := [(5, .bool t8), (6, .pointer (some (⟨g27, 0, none⟩ : Addr))), (7, .int .i64 y38), (31, .slice Aa41 (t14.Words.take (y38 : Int).toNat).length cc42)]) (by kernel_rfl) ?_
 clear hs; intro a hs
 refine go_pvs 4 5 [5, 6, 7, 32] hs (L' := [(5, .bool t8), (6, .pointer (some (⟨g27, 0, none⟩ : Addr))), (7, .int .i64 y38), (32, .agg #[.slice Aa41 (t14.Words.take (y38 : Int).toNat).length cc42, .slice none 0 0, .slice none 0 0])]) (by kernel_rfl) ?_ rfl
 clear hs; intro a hs
 obtain ⟨g46, wd47, hx48, hw⟩ := x_allocc (P := Tryd.prog) (elem := 26) (ty := 0) (z := .agg #[.slice none 0 0, .slice none 0 0, .slice none 0 0]) (cs := [.slice none 0 0, .slice none 0 0, .slice none 0 0]) hs hw (by kernel_rfl) (by kernel_rfl)
 refine go_run hs (op := (Op.alloc 26)) (ty := 0) (dst := some 8) (g := none) (by kernel_rfl) (by kernel_rfl) (by kernel_rfl) hx48 [5, 6, 7, 8, 32] (L' := [(5, .bool t8), (6, .pointer (some (⟨g27, 0, none⟩ : Addr))), (7, .int .i64 y38), (8, .pointer (some (⟨g46, 0, none⟩ : Addr))), (32, .agg #[.slice Aa41 (t14.Words.take (y38 : Int).toNat).length cc42, .slice none 0 0, .slice none 0 0])]) (by kernel_rfl) ?_
 clear hs; intro a hs
 replace hw := St.own_nil hw 37 (eI .u32)
 replace hw := St.own_nil hw 3 (eI .i64)
 replace hw := St.own_nil hw 39 eSapi_Sym
 replace hw : St [] w0 wd47 [own 39 eSapi_Sym none 0 ([] : List Sapi_Sym), own 3 (eI .i64) none 0 ([] : List Int), own 37 (eI .u32) none 0 ([] : List Int), box g46 26 [.slice none ([] : List Int).length 0, .slice none ([] : List Int).length 0, .slice none ([] : List Sapi_Sym).length 0], box g27 26 [.slice Aa16 t14.Words.length cc17, .slice Aa18 t14.Sites.length cc19, .slice Aa20 t14.Syms.length cc21], own 39 eSapi_Sym none 0 ([] : List Sapi_Sym), own 3 (eI .i64) none 0 ([] : List Int), own 37 (eI .u32) none 0 ([] : List Int), own 37 (eI .u32) Aa16 cc17 t14.Words, own 3 (eI .i64) Aa18 cc19 t14.Sites, own 39 eSapi_Sym Aa20 cc21 t14.Syms, box g2 35 [.slice A0_1 a0.Words.length c0_1, .slice A0_2 a0.Bits.length c0_2, .slice A0_3 a0.Names.length c0_3]] := hw
 replace hw := hw.up 3
 obtain ⟨wd53, hx54, hw⟩ := x_bput (P := Tryd.prog) (ty := 0) (t := 26) (y := (Operand.tmp 8)) (z := (Operand.tmp 32)) (o := 0) (p := (⟨g46, 0, none⟩ : Addr)) (v := .agg #[.slice Aa41 (t14.Words.take (y38 : Int).toNat).length cc42, .slice none 0 0, .slice none 0 0]) (vs := [.slice Aa41 (t14.Words.take (y38 : Int).toNat).length cc42, .slice none 0 0, .slice none 0 0]) (cs' := [.slice Aa41 (t14.Words.take (y38 : Int).toNat).length cc42, .slice none 0 0, .slice none 0 0]) hs hw (by kernel_rfl) rfl (by kernel_rfl) rfl (by kernel_rfl) (by kernel_rfl) (by simp [Value.oneCell']) rfl
 refine go_unit hs (op := (Op.store 26 (Operand.tmp 8) (Operand.tmp 32))) (ty := 0) (dst := none) (g := none) (by kernel_rfl) (by kernel_rfl) (by kernel_rfl) hx54 [5, 6, 7, 8] (L' := [(5, .bool t8), (6, .pointer (some (⟨g27, 0, none⟩ : Addr))), (7, .int .i64 y38), (8, .pointer (some (⟨g46, 0, none⟩ : Addr)))]) (by kernel_rfl) ?_
 clear hs; intro a hs
 replace hw := St.own_nil hw 3 (eI .i64)
 replace hw := St.own_nil hw 39 eSapi_Sym
 replace hw : St [] w0 wd53 [own 39 eSapi_Sym none 0 ([] : List Sapi_Sym), own 3 (eI .i64) none 0 ([] : List Int), box g46 26 [.slice Aa41 (t14.Words.take (y38 : Int).toNat).length cc42, .slice none ([] : List Int).length 0, .slice none ([] : List Sapi_Sym).length 0], own 39 eSapi_Sym none 0 ([] : List Sapi_Sym), own 3 (eI .i64) none 0 ([] : List Int), own 37 (eI .u32) none 0 ([] : List Int), box g27 26 [.slice Aa16 t14.Words.length cc17, .slice Aa18 t14.Sites.length cc19, .slice Aa20 t14.Syms.length cc21], own 39 eSapi_Sym none 0 ([] : List Sapi_Sym), own 3 (eI .i64) none 0 ([] : List Int), own 37 (eI .u32) none 0 ([] : List Int), own 37 (eI .u32) Aa16 cc17 t14.Words, own 3 (eI .i64) Aa18 cc19 t14.Sites, own 39 eSapi_Sym Aa20 cc21 t14.Syms, box g2 35 [.slice A0_1 a0.Words.length c0_1, .slice A0_2 a0.Bits.length c0_2, .slice A0_3 a0.Names.length c0_3]] := hw
 refine go_end (by kernel_rfl) ?_
 refine hK39 _ _ ?_
 refine go_seq_k fun K57 hK57 => ?_
 refine go_region ?_
 refine go_pvs 0 1 [5, 6, 7, 8, 9] hs (L' := [(5, .bool t8), (6, .pointer (some (⟨g27, 0, none⟩ : Addr))), (7, .int .i64 y38), (8, .pointer (some (⟨g46, 0, none⟩ : Addr))), (9, .bool true)]) (by kernel_rfl) ?_ rfl
 clear hs; intro a hs
 refine go_end (by kernel_rfl) ?_
 refine hK57 _ _ ?_
 refine go_seq_k fun K58 hK58 => ?_
 refine go_seq_k fun K59 hK59 => ?_
 refine go_region ?_
 refine go_pvs 0 1 [5, 6, 7, 8, 9, 10] hs (L' := [(5, .bool t8), (6, .pointer (some (⟨g27, 0, none⟩ : Addr))), (7, .int .i64 y38), (8, .pointer (some (⟨g46, 0, none⟩ : Addr))), (9, .bool true), (10, .int .i64 0)]) (by kernel_rfl) ?_ rfl
 clear hs; intro a hs
 refine go_end (by kernel_rfl) ?_
 refine hK59 _ _ ?_
 refine wp_block ?_
 obtain ⟨e60, hl60, HX60⟩ := bind_some H
 have hJ2 : ∀ (Aa100 : Option Addr) (cc101 : Nat) (l99 : List Int) (v102 : Bool) (a : Act) (w : World), Slots a 140 [(5, .bool t8), (6, .pointer (some (⟨g27, 0, none⟩ : Addr))), (7, .int .i64 y38), (8, .pointer (some (⟨g46, 0, none⟩ : Addr))), (9, .bool v102)] → St [] w0 w [own 39 eSapi_Sym none 0 ([] : List Sapi_Sym), own 3 (eI .i64) Aa100 cc101 l99, box g46 26 [.slice Aa41 (t14.Words.take (y38 : Int).toNat).length cc42, .slice Aa100 l99.length cc101, .slice none ([] : List Sapi_Sym).length 0], own 39 eSapi_Sym none 0 ([] : List Sapi_Sym), own 3 (eI .i64) none 0 ([] : List Int), own 37 (eI .u32) none 0 ([] : List Int), box g27 26 [.slice Aa16 t14.Words.length cc17, .slice Aa18 t14.Sites.length cc19, .slice Aa20 t14.Syms.length cc21], own 39 eSapi_Sym none 0 ([] : List Sapi_Sym), own 3 (eI .i64) none 0 ([] : List Int), own 37 (eI .u32) none 0 ([] : List Int), own 37 (eI .u32) Aa16 cc17 t14.Words, own 3 (eI .i64) Aa18 cc19 t14.Sites, own 39 eSapi_Sym Aa20 cc21 t14.Syms, box g2 35 [.slice A0_1 a0.Words.length c0_1, .slice A0_2 a0.Bits.length c0_2, .slice A0_3 a0.Names.length c0_3]] → rivetlaw09_ObjectParts.j2 t14 y38 t8 l99 v102 = some r → K58 a w := by
  intro Aa100 cc101 l99 v102 a w hs hw H
  unfold rivetlaw09_ObjectParts.j2 at H
  refine hK58 _ _ ?_
  refine go_seq_k fun K103 hK103 => ?_
  refine go_seq_k fun K104 hK104 => ?_
  refine go_region ?_
  refine go_pvs 0 1 [5, 6, 7, 8, 9, 11] hs (L' := [(5, .bool t8), (6, .pointer (some (⟨g27, 0, none⟩ : Addr))), (7, .int .i64 y38), (8, .pointer (some (⟨g46, 0, none⟩ : Addr))), (9, .bool v102), (11, .int .i64 0)]) (by kernel_rfl) ?_ rfl
  clear hs; intro a hs
  refine go_end (by kernel_rfl) ?_
  refine hK104 _ _ ?_
  refine wp_block ?_
  obtain ⟨e105, hl105, HX105⟩ := bind_some H
  have hJ4 : ∀ (Aa138 : Option Addr) (cc139 : Nat) (l137 : List Sapi_Sym) (a : Act) (w : World), Slots a 140 [(5, .bool t8), (6, .pointer (some (⟨g27, 0, none⟩ : Addr))), (8, .pointer (some (⟨g46, 0, none⟩ : Addr))), (9, .bool v102)] → St [] w0 w [own 39 eSapi_Sym Aa138 cc139 l137, own 3 (eI .i64) Aa100 cc101 l99, box g46 26 [.slice Aa41 (t14.Words.take (y38 : Int).toNat).length cc42, .slice Aa100 l99.length cc101, .slice Aa138 l137.length cc139], own 39 eSapi_Sym none 0 ([] : List Sapi_Sym), own 3 (eI .i64) none 0 ([] : List Int), own 37 (eI .u32) none 0 ([] : List Int), box g27 26 [.slice Aa16 t14.Words.length cc17, .slice Aa18 t14.Sites.length cc19, .slice Aa20 t14.Syms.length cc21], own 39 eSapi_Sym none 0 ([] : List Sapi_Sym), own 3 (eI .i64) none 0 ([] : List Int), own 37 (eI .u32) none 0 ([] : List Int), own 37 (eI .u32) Aa16 cc17 t14.Words, own 3 (eI .i64) Aa18 cc19 t14.Sites, own 39 eSapi_Sym Aa20 cc21 t14.Syms, box g2 35 [.slice A0_1 a0.Words.length c0_1, .slice A0_2 a0.Bits.length c0_2, .slice A0_3 a0.Names.length c0_3]] → rivetlaw09_ObjectParts.j4 t14 y38 l99 t8 v102 l137 = some r → K103 a w := by
   intro Aa138 cc139 l137 a w hs hw H
   unfold rivetlaw09_ObjectParts.j4 at H
   refine hK103 _ _ ?_
   refine go_seq_k fun K140 hK140 => ?_
   refine go_region ?_
   refine go_run hs (op := (Op.load 26 (Operand.tmp 8))) (ty := 26) (dst := some 99) (g := none) (by kernel_rfl) (by kernel_rfl) (by kernel_rfl) (x_blds (g := g46) (o := 0) (p := (⟨g46, 0, none⟩ : Addr)) (vs := [.slice Aa41 (t14.Words.take (y38 : Int).toNat).length cc42, .slice Aa100 l99.length cc101, .slice Aa138 l137.length cc139]) (hw.up 2) (by kernel_rfl) rfl (by kernel_rfl) (by kernel_rfl) (by kernel_rfl)) [5, 6, 9, 99] (L' := [(5, .bool t8), (6, .pointer (some (⟨g27, 0, none⟩ : Addr))), (9, .bool v102), (99, .agg #[.slice Aa41 (t14.Words.take (y38 : Int).toNat).length cc42, .slice Aa100 l99.length cc101, .slice Aa138 l137.length cc139])]) (by kernel_rfl) ?_
   clear hs; intro a hs
   obtain ⟨t142, hx143, H⟩ := bind_some H
   refine go_call hs (op := (Op.call { callee := (Callee.value (Operand.func 15)), args := #[(Operand.tmp 99)], argTypes := #[26] })) (ty := 29) (dst := some 100) (g := none) (by kernel_rfl) (by kernel_rfl) (by kernel_rfl) (f := 15) (args := #[.agg #[.slice Aa41 (t14.Words.take (y38 : Int).toNat).length cc42, .slice Aa100 l99.length cc101, .slice Aa138 l137.length cc139]]) (by kernel_rfl) (object_May.calls (⟨t14.Words.take (y38 : Int).toNat, l99, l137⟩ : Sapi_Obj) Aa41 cc42 Aa100 cc101 Aa138 cc139 t142 _ (hc44 _ (Rd.of_own (hw.up 10))) (Rd.of_own (hw.up 1)) (Rd.of_own (hw.up 0)) hx143) ?_
   rintro e wd144 ⟨rfl, hw145⟩
   refine ⟨_, rfl, ?_⟩
   replace hw := hw.call hw145
   intro a hs1
   replace hs : Slots a 140 [(5, .bool t8), (6, .pointer (some (⟨g27, 0, none⟩ : Addr))), (9, .bool v102), (100, .int .i64 t142)] := hs1.keep [5, 6, 9, 100] (by kernel_rfl)
   clear hs1
   refine go_pvs 2 3 [5, 6, 9, 12] hs (L' := [(5, .bool t8), (6, .pointer (some (⟨g27, 0, none⟩ : Addr))), (9, .bool v102), (12, .int .i64 t142)]) (by kernel_rfl) ?_ rfl
   clear hs; intro a hs
   refine go_end (by kernel_rfl) ?_
   refine hK140 _ _ ?_
   refine go_seq_k fun K146 hK146 => ?_
   have hJ5 : ∀ (v168 : Bool) (a : Act) (w : World), Slots a 140 [(4, .bool v168)] → St [] w0 w [own 39 eSapi_Sym Aa138 cc139 l137, own 3 (eI .i64) Aa100 cc101 l99, box g46 26 [.slice Aa41 (t14.Words.take (y38 : Int).toNat).length cc42, .slice Aa100 l99.length cc101, .slice Aa138 l137.length cc139], own 39 eSapi_Sym none 0 ([] : List Sapi_Sym), own 3 (eI .i64) none 0 ([] : List Int), own 37 (eI .u32) none 0 ([] : List Int), box g27 26 [.slice Aa16 t14.Words.length cc17, .slice Aa18 t14.Sites.length cc19, .slice Aa20 t14.Syms.length cc21], own 39 eSapi_Sym none 0 ([] : List Sapi_Sym), own 3 (eI .i64) none 0 ([] : List Int), own 37 (eI .u32) none 0 ([] : List Int), own 37 (eI .u32) Aa16 cc17 t14.Words, own 3 (eI .i64) Aa18 cc19 t14.Sites, own 39 eSapi_Sym Aa20 cc21 t14.Syms, box g2 35 [.slice A0_1 a0.Words.length c0_1, .slice A0_2 a0.Bits.length c0_2, .slice A0_3 a0.Names.length c0_3]] → rivetlaw09_ObjectParts.j5 v168 = some r → K146 a w := by
    intro v168 a w hs hw H
    unfold rivetlaw09_ObjectParts.j5 at H
    refine hK146 _ _ ?_
    refine wp_ret ?_
    obtain rfl := Option.some.inj H
    refine ret1 (t := 4) (v := .bool v168) hs (by kernel_rfl) (by kernel_rfl) ?_
    exact ⟨rfl, hw.only 0⟩
   refine go_region ?_
   refine go_pvs 0 2 [6, 9, 12, 102] hs (L' := [(6, .pointer (some (⟨g27, 0, none⟩ : Addr))), (9, .bool v102), (12, .int .i64 t142), (102, .bool t8)]) (by kernel_rfl) ?_ rfl
   clear hs; intro a hs
   cases hb147 : t8
   ·replace H := ite_f H (ff hb147)
    rw [hb147] at hs
    refine go_pvs 2 40 [4] hs (L' := [(4, .bool false)]) (by kernel_rfl) ?_ rfl
    clear hs; intro a hs
    refine go_end (by kernel_rfl) ?_
    replace hw := hw.up 13
    replace hw := hw.up 13
    replace hw := hw.up 13
    replace hw := hw.up 13
    replace hw := hw.up 13
    replace hw := hw.up 13
    replace hw := hw.up 13
    replace hw := hw.up 13
    replace hw := hw.up 13
    replace hw := hw.up 13
    replace hw := hw.up 13
    replace hw := hw.up 13
    replace hw := hw.up 13
    replace hw := hw.up 13
    replace hw := hw.only 14
    exact hJ5 false _ _ (hs.keep [4] (by kernel_rfl)) hw H
   ·replace H := ite_t H hb147
    rw [hb147] at hs
    refine go_pvs 2 3 [6, 9, 12, 102, 103] hs (L' := [(6, .pointer (some (⟨g27, 0, none⟩ : Addr))), (9, .bool v102), (12, .int .i64 t142), (102, .bool true), (103, .pointer (some (((⟨g27, 0, none⟩ : Addr) : Addr).add 0)))]) (by kernel_rfl) ?_ rfl
    clear hs; intro a hs
    refine go_run hs (op := (Op.load 22 (Operand.tmp 103))) (ty := 22) (dst := some 104) (g := some (1, true)) (by kernel_rfl) (by kernel_rfl) (by kernel_rfl) (x_bld (g := g27) (o := 0) (p := ((⟨g27, 0, none⟩ : Addr) : Addr).add 0) (v := .slice Aa16 t14.Words.length cc17) (hw.up 6) (by kernel_rfl) rfl (by kernel_rfl) (by kernel_rfl)) [6, 9, 12, 102, 104] (L' := [(6, .pointer (some (⟨g27, 0, none⟩ : Addr))), (9, .bool v102), (12, .int .i64 t142), (102, .bool true), (104, .slice Aa16 t14.Words.length cc17)]) (by kernel_rfl) ?_
    clear hs; intro a hs
    refine go_pvs 4 5 [6, 9, 12, 102, 104, 105] hs (L' := [(6, .pointer (some (⟨g27, 0, none⟩ : Addr))), (9, .bool v102), (12, .int .i64 t142), (102, .bool true), (104, .slice Aa16 t14.Words.length cc17), (105, .pointer (some (((⟨g27, 0, none⟩ : Addr) : Addr).add 1)))]) (by kernel_rfl) ?_ rfl
    clear hs; intro a hs
    refine go_run hs (op := (Op.load 23 (Operand.tmp 105))) (ty := 23) (dst := some 106) (g := some (1, true)) (by kernel_rfl) (by kernel_rfl) (by kernel_rfl) (x_bld (g := g27) (o := 1) (p := ((⟨g27, 0, none⟩ : Addr) : Addr).add 1) (v := .slice Aa18 t14.Sites.length cc19) (hw.up 6) (by kernel_rfl) rfl (by kernel_rfl) (by kernel_rfl)) [6, 9, 12, 102, 104, 106] (L' := [(6, .pointer (some (⟨g27, 0, none⟩ : Addr))), (9, .bool v102), (12, .int .i64 t142), (102, .bool true), (104, .slice Aa16 t14.Words.length cc17), (106, .slice Aa18 t14.Sites.length cc19)]) (by kernel_rfl) ?_
    clear hs; intro a hs
    refine go_pvs 6 7 [6, 9, 12, 102, 107] hs (L' := [(6, .pointer (some (⟨g27, 0, none⟩ : Addr))), (9, .bool v102), (12, .int .i64 t142), (102, .bool true), (107, .agg #[.slice Aa16 t14.Words.length cc17, .slice Aa18 t14.Sites.length cc19, .slice none 0 0])]) (by kernel_rfl) ?_ rfl
    clear hs; intro a hs
    obtain ⟨t149, hx150, H⟩ := bind_some H
    refine go_call hs (op := (Op.call { callee := (Callee.value (Operand.func 15)), args := #[(Operand.tmp 107)], argTypes := #[26] })) (ty := 29) (dst := some 108) (g := some (1, true)) (by kernel_rfl) (by kernel_rfl) (by kernel_rfl) (f := 15) (args := #[.agg #[.slice Aa16 t14.Words.length cc17, .slice Aa18 t14.Sites.length cc19, .slice none 0 0]]) (by kernel_rfl) (object_May.calls (⟨t14.Words, t14.Sites, ([] : List Sapi_Sym)⟩ : Sapi_Obj) Aa16 cc17 Aa18 cc19 none 0 t149 _ (Rd.of_own (hw.up 10)) (Rd.of_own (hw.up 11)) (Rd.nil _ _) hx150) ?_
    rintro e wd151 ⟨rfl, hw152⟩
    refine ⟨_, rfl, ?_⟩
    replace hw := hw.call hw152
    intro a hs1
    replace hs : Slots a 140 [(6, .pointer (some (⟨g27, 0, none⟩ : Addr))), (9, .bool v102), (12, .int .i64 t142), (102, .bool true), (108, .int .i64 t149)] := hs1.keep [6, 9, 12, 102, 108] (by kernel_rfl)
    clear hs1
    refine go_pvs 8 11 [6, 9, 12, 111] hs (L' := [(6, .pointer (some (⟨g27, 0, none⟩ : Addr))), (9, .bool v102), (12, .int .i64 t142), (111, .bool (t149 == 0))]) (by kernel_rfl) ?_ rfl
    clear hs; intro a hs
    cases hb153 : (t149 == 0)
    ·replace H := ite_f H (beq_eq_false_iff_ne.1 hb153)
     rw [hb153] at hs
     refine go_pvs 11 40 [4] hs (L' := [(4, .bool false)]) (by kernel_rfl) ?_ rfl
     clear hs; intro a hs
     refine go_end (by kernel_rfl) ?_
     replace hw := hw.up 13
     replace hw := hw.up 13
     replace hw := hw.up 13
     replace hw := hw.up 13
     replace hw := hw.up 13
     replace hw := hw.up 13
     replace hw := hw.up 13
     replace hw := hw.up 13
     replace hw := hw.up 13
     replace hw := hw.up 13
     replace hw := hw.up 13
     replace hw := hw.up 13
     replace hw := hw.up 13
     replace hw := hw.up 13
     replace hw := hw.only 14
     exact hJ5 false _ _ (hs.keep [4] (by kernel_rfl)) hw H
    ·replace H := ite_t H (beq_iff_eq.1 hb153)
     rw [hb153] at hs
     refine go_pvs 11 12 [6, 9, 12, 111, 112] hs (L' := [(6, .pointer (some (⟨g27, 0, none⟩ : Addr))), (9, .bool v102), (12, .int .i64 t142), (111, .bool true), (112, .pointer (some (((⟨g27, 0, none⟩ : Addr) : Addr).add 0)))]) (by kernel_rfl) ?_ rfl
     clear hs; intro a hs
     refine go_run hs (op := (Op.load 22 (Operand.tmp 112))) (ty := 22) (dst := some 113) (g := some (10, true)) (by kernel_rfl) (by kernel_rfl) (by kernel_rfl) (x_bld (g := g27) (o := 0) (p := ((⟨g27, 0, none⟩ : Addr) : Addr).add 0) (v := .slice Aa16 t14.Words.length cc17) (hw.up 6) (by kernel_rfl) rfl (by kernel_rfl) (by kernel_rfl)) [6, 9, 12, 111, 113] (L' := [(6, .pointer (some (⟨g27, 0, none⟩ : Addr))), (9, .bool v102), (12, .int .i64 t142), (111, .bool true), (113, .slice Aa16 t14.Words.length cc17)]) (by kernel_rfl) ?_
     clear hs; intro a hs
     refine go_pvs 13 14 [6, 9, 12, 111, 113, 114] hs (L' := [(6, .pointer (some (⟨g27, 0, none⟩ : Addr))), (9, .bool v102), (12, .int .i64 t142), (111, .bool true), (113, .slice Aa16 t14.Words.length cc17), (114, .pointer (some (((⟨g27, 0, none⟩ : Addr) : Addr).add 2)))]) (by kernel_rfl) ?_ rfl
     clear hs; intro a hs
     refine go_run hs (op := (Op.load 24 (Operand.tmp 114))) (ty := 24) (dst := some 115) (g := some (10, true)) (by kernel_rfl) (by kernel_rfl) (by kernel_rfl) (x_bld (g := g27) (o := 2) (p := ((⟨g27, 0, none⟩ : Addr) : Addr).add 2) (v := .slice Aa20 t14.Syms.length cc21) (hw.up 6) (by kernel_rfl) rfl (by kernel_rfl) (by kernel_rfl)) [6, 9, 12, 111, 113, 115] (L' := [(6, .pointer (some (⟨g27, 0, none⟩ : Addr))), (9, .bool v102), (12, .int .i64 t142), (111, .bool true), (113, .slice Aa16 t14.Words.length cc17), (115, .slice Aa20 t14.Syms.length cc21)]) (by kernel_rfl) ?_
     clear hs; intro a hs
     refine go_pvs 15 16 [6, 9, 12, 111, 116] hs (L' := [(6, .pointer (some (⟨g27, 0, none⟩ : Addr))), (9, .bool v102), (12, .int .i64 t142), (111, .bool true), (116, .agg #[.slice Aa16 t14.Words.length cc17, .slice none 0 0, .slice Aa20 t14.Syms.length cc21])]) (by kernel_rfl) ?_ rfl
     clear hs; intro a hs
     obtain ⟨t155, hx156, H⟩ := bind_some H
     refine go_call hs (op := (Op.call { callee := (Callee.value (Operand.func 15)), args := #[(Operand.tmp 116)], argTypes := #[26] })) (ty := 29) (dst := some 117) (g := some (10, true)) (by kernel_rfl) (by kernel_rfl) (by kernel_rfl) (f := 15) (args := #[.agg #[.slice Aa16 t14.Words.length cc17, .slice none 0 0, .slice Aa20 t14.Syms.length cc21]]) (by kernel_rfl) (object_May.calls (⟨t14.Words, ([] : List Int), t14.Syms⟩ : Sapi_Obj) Aa16 cc17 none 0 Aa20 cc21 t155 _ (Rd.of_own (hw.up 10)) (Rd.nil _ _) (Rd.of_own (hw.up 12)) hx156) ?_
     rintro e wd157 ⟨rfl, hw158⟩
     refine ⟨_, rfl, ?_⟩
     replace hw := hw.call hw158
     intro a hs1
     replace hs : Slots a 140 [(6, .pointer (some (⟨g27, 0, none⟩ : Addr))), (9, .bool v102), (12, .int .i64 t142), (111, .bool true), (117, .int .i64 t155)] := hs1.keep [6, 9, 12, 111, 117] (by kernel_rfl)
     clear hs1
     refine go_pvs 17 20 [6, 9, 12, 120] hs (L' := [(6, .pointer (some (⟨g27, 0, none⟩ : Addr))), (9, .bool v102), (12, .int .i64 t142), (120, .bool (t155 == 0))]) (by kernel_rfl) ?_ rfl
     clear hs; intro a hs
     cases hb159 : (t155 == 0)
     ·replace H := ite_f H (beq_eq_false_iff_ne.1 hb159)
      rw [hb159] at hs
      refine go_pvs 20 40 [4] hs (L' := [(4, .bool false)]) (by kernel_rfl) ?_ rfl
      clear hs; intro a hs
      refine go_end (by kernel_rfl) ?_
      replace hw := hw.up 13
      replace hw := hw.up 13
      replace hw := hw.up 13
      replace hw := hw.up 13
      replace hw := hw.up 13
      replace hw := hw.up 13
      replace hw := hw.up 13
      replace hw := hw.up 13
      replace hw := hw.up 13
      replace hw := hw.up 13
      replace hw := hw.up 13
      replace hw := hw.up 13
      replace hw := hw.up 13
      replace hw := hw.up 13
      replace hw := hw.only 14
      exact hJ5 false _ _ (hs.keep [4] (by kernel_rfl)) hw H
     ·replace H := ite_t H (beq_iff_eq.1 hb159)
      rw [hb159] at hs
      refine go_pvs 20 21 [9, 12, 120, 121] hs (L' := [(9, .bool v102), (12, .int .i64 t142), (120, .bool true), (121, .pointer (some (((⟨g27, 0, none⟩ : Addr) : Addr).add 0)))]) (by kernel_rfl) ?_ rfl
      clear hs; intro a hs
      refine go_run hs (op := (Op.load 22 (Operand.tmp 121))) (ty := 22) (dst := some 122) (g := some (19, true)) (by kernel_rfl) (by kernel_rfl) (by kernel_rfl) (x_bld (g := g27) (o := 0) (p := ((⟨g27, 0, none⟩ : Addr) : Addr).add 0) (v := .slice Aa16 t14.Words.length cc17) (hw.up 6) (by kernel_rfl) rfl (by kernel_rfl) (by kernel_rfl)) [9, 12, 120, 122] (L' := [(9, .bool v102), (12, .int .i64 t142), (120, .bool true), (122, .slice Aa16 t14.Words.length cc17)]) (by kernel_rfl) ?_
      clear hs; intro a hs
      refine go_pvs 22 23 [9, 12, 120, 123] hs (L' := [(9, .bool v102), (12, .int .i64 t142), (120, .bool true), (123, .agg #[.slice Aa16 t14.Words.length cc17, .slice none 0 0, .slice none 0 0])]) (by kernel_rfl) ?_ rfl
      clear hs; intro a hs
      obtain ⟨t161, hx162, H⟩ := bind_some H
      refine go_call hs (op := (Op.call { callee := (Callee.value (Operand.func 15)), args := #[(Operand.tmp 123)], argTypes := #[26] })) (ty := 29) (dst := some 124) (g := some (19, true)) (by kernel_rfl) (by kernel_rfl) (by kernel_rfl) (f := 15) (args := #[.agg #[.slice Aa16 t14.Words.length cc17, .slice none 0 0, .slice none 0 0]]) (by kernel_rfl) (object_May.calls (⟨t14.Words, ([] : List Int), ([] : List Sapi_Sym)⟩ : Sapi_Obj) Aa16 cc17 none 0 none 0 t161 _ (Rd.of_own (hw.up 10)) (Rd.nil _ _) (Rd.nil _ _) hx162) ?_
      rintro e wd163 ⟨rfl, hw164⟩
      refine ⟨_, rfl, ?_⟩
      replace hw := hw.call hw164
      intro a hs1
      replace hs : Slots a 140 [(9, .bool v102), (12, .int .i64 t142), (120, .bool true), (124, .int .i64 t161)] := hs1.keep [9, 12, 120, 124] (by kernel_rfl)
      clear hs1
      refine go_pvs 24 27 [9, 12, 127] hs (L' := [(9, .bool v102), (12, .int .i64 t142), (127, .bool (t161 == 0))]) (by kernel_rfl) ?_ rfl
      clear hs; intro a hs
      cases hb165 : (t161 == 0)
      ·replace H := ite_f H (beq_eq_false_iff_ne.1 hb165)
       rw [hb165] at hs
       refine go_pvs 27 40 [4] hs (L' := [(4, .bool false)]) (by kernel_rfl) ?_ rfl
       clear hs; intro a hs
       refine go_end (by kernel_rfl) ?_
       replace hw := hw.up 13
       replace hw := hw.up 13
       replace hw := hw.up 13
       replace hw := hw.up 13
       replace hw := hw.up 13
       replace hw := hw.up 13
       replace hw := hw.up 13
       replace hw := hw.up 13
       replace hw := hw.up 13
       replace hw := hw.up 13
       replace hw := hw.up 13
       replace hw := hw.up 13
       replace hw := hw.up 13
       replace hw := hw.up 13
       replace hw := hw.only 14
       exact hJ5 false _ _ (hs.keep [4] (by kernel_rfl)) hw H
      ·replace H := ite_t H (beq_iff_eq.1 hb165)
       rw [hb165] at hs
       refine go_pvs 27 33 [9, 12, 133] hs (L' := [(9, .bool v102), (12, .int .i64 t142), (133, .bool ((t142 == 0) == v102))]) (by kernel_rfl) ?_ rfl
       clear hs; intro a hs
       cases hb166 : ((t142 == 0) == v102)
       ·replace H := ite_f H (ff hb166)
        rw [hb166] at hs
        refine go_pvs 33 40 [4] hs (L' := [(4, .bool false)]) (by kernel_rfl) ?_ rfl
        clear hs; intro a hs
        refine go_end (by kernel_rfl) ?_
        replace hw := hw.up 13
        replace hw := hw.up 13
        replace hw := hw.up 13
        replace hw := hw.up 13
        replace hw := hw.up 13
        replace hw := hw.up 13
        replace hw := hw.up 13
        replace hw := hw.up 13
        replace hw := hw.up 13
        replace hw := hw.up 13
        replace hw := hw.up 13
        replace hw := hw.up 13
        replace hw := hw.up 13
        replace hw := hw.up 13
        replace hw := hw.only 14
        exact hJ5 false _ _ (hs.keep [4] (by kernel_rfl)) hw H
       ·replace H := ite_t H hb166
        rw [hb166] at hs
        refine go_pvs 33 35 [12, 133, 135] hs (L' := [(12, .int .i64 t142), (133, .bool true), (135, .bool v102)]) (by kernel_rfl) ?_ rfl
        clear hs; intro a hs
        cases hb167 : v102
        ·replace H := ite_f H (ff hb167)
         rw [hb167] at hs
         refine go_pvs 35 40 [4] hs (L' := [(4, .bool (t142 == 8))]) (by kernel_rfl) ?_ rfl
         clear hs; intro a hs
         refine go_end (by kernel_rfl) ?_
         replace hw := hw.up 13
         replace hw := hw.up 13
         replace hw := hw.up 13
         replace hw := hw.up 13
         replace hw := hw.up 13
         replace hw := hw.up 13
         replace hw := hw.up 13
         replace hw := hw.up 13
         replace hw := hw.up 13
         replace hw := hw.up 13
         replace hw := hw.up 13
         replace hw := hw.up 13
         replace hw := hw.up 13
         replace hw := hw.up 13
         replace hw := hw.only 14
         exact hJ5 (t142 == 8) _ _ (hs.keep [4] (by kernel_rfl)) hw H
        ·replace H := ite_t H hb167
         rw [hb167] at hs
         refine go_pvs 35 40 [4] hs (L' := [(4, .bool true)]) (by kernel_rfl) ?_ rfl
         clear hs; intro a hs
         refine go_end (by kernel_rfl) ?_
         replace hw := hw.up 13
         replace hw := hw.up 13
         replace hw := hw.up 13
         replace hw := hw.up 13
         replace hw := hw.up 13
         replace hw := hw.up 13
         replace hw := hw.up 13
         replace hw := hw.up 13
         replace hw := hw.up 13
         replace hw := hw.up 13
         replace hw := hw.up 13
         replace hw := hw.up 13
         replace hw := hw.up 13
         replace hw := hw.up 13
         replace hw := hw.only 14
         exact hJ5 true _ _ (hs.keep [4] (by kernel_rfl)) hw H
  clear H
  refine go_loop (σ := (List Sapi_Sym) × Int) (fun σ a w => ∃ Aa107, ∃ cc108, Slots a 140 [(5, .bool t8), (6, .pointer (some (⟨g27, 0, none⟩ : Addr))), (7, .int .i64 y38), (8, .pointer (some (⟨g46, 0, none⟩ : Addr))), (9, .bool v102), (11, .int .i64 σ.2)] ∧ St [] w0 w [own 39 eSapi_Sym Aa107 cc108 σ.1, own 3 (eI .i64) Aa100 cc101 l99, box g46 26 [.slice Aa41 (t14.Words.take (y38 : Int).toNat).length cc42, .slice Aa100 l99.length cc101, .slice Aa107 σ.1.length cc108], own 39 eSapi_Sym none 0 ([] : List Sapi_Sym), own 3 (eI .i64) none 0 ([] : List Int), own 37 (eI .u32) none 0 ([] : List Int), box g27 26 [.slice Aa16 t14.Words.length cc17, .slice Aa18 t14.Sites.length cc19, .slice Aa20 t14.Syms.length cc21], own 39 eSapi_Sym none 0 ([] : List Sapi_Sym), own 3 (eI .i64) none 0 ([] : List Int), own 37 (eI .u32) none 0 ([] : List Int), own 37 (eI .u32) Aa16 cc17 t14.Words, own 3 (eI .i64) Aa18 cc19 t14.Sites, own 39 eSapi_Sym Aa20 cc21 t14.Syms, box g2 35 [.slice A0_1 a0.Words.length c0_1, .slice A0_2 a0.Bits.length c0_2, .slice A0_3 a0.Names.length c0_3]]) hl105 (by exact ⟨none, 0, hs.keep [5, 6, 7, 8, 9, 11] (by kernel_rfl), hw⟩) ?_
  rintro ⟨l106, v109⟩ a w ⟨Aa107, cc108, hs, hw⟩ o H hr105
  replace hs : Slots a 140 [(5, .bool t8), (6, .pointer (some (⟨g27, 0, none⟩ : Addr))), (7, .int .i64 y38), (8, .pointer (some (⟨g46, 0, none⟩ : Addr))), (9, .bool v102), (11, .int .i64 v109)] := hs
  replace hw : St [] w0 w [own 39 eSapi_Sym Aa107 cc108 l106, own 3 (eI .i64) Aa100 cc101 l99, box g46 26 [.slice Aa41 (t14.Words.take (y38 : Int).toNat).length cc42, .slice Aa100 l99.length cc101, .slice Aa107 l106.length cc108], own 39 eSapi_Sym none 0 ([] : List Sapi_Sym), own 3 (eI .i64) none 0 ([] : List Int), own 37 (eI .u32) none 0 ([] : List Int), box g27 26 [.slice Aa16 t14.Words.length cc17, .slice Aa18 t14.Sites.length cc19, .slice Aa20 t14.Syms.length cc21], own 39 eSapi_Sym none 0 ([] : List Sapi_Sym), own 3 (eI .i64) none 0 ([] : List Int), own 37 (eI .u32) none 0 ([] : List Int), own 37 (eI .u32) Aa16 cc17 t14.Words, own 3 (eI .i64) Aa18 cc19 t14.Sites, own 39 eSapi_Sym Aa20 cc21 t14.Syms, box g2 35 [.slice A0_1 a0.Words.length c0_1, .slice A0_2 a0.Bits.length c0_2, .slice A0_3 a0.Names.length c0_3]] := hw
  replace H : rivetlaw09_ObjectParts.b105 t14 y38 l106 v109 = some o := H
  unfold rivetlaw09_ObjectParts.b105 at H
  refine go_seq_k fun K110 hK110 => ?_
  refine go_seq_k fun K111 hK111 => ?_
  refine go_region ?_
  refine go_pvs 0 2 [5, 6, 7, 8, 9, 11, 73, 74] hs (L' := [(5, .bool t8), (6, .pointer (some (⟨g27, 0, none⟩ : Addr))), (7, .int .i64 y38), (8, .pointer (some (⟨g46, 0, none⟩ : Addr))), (9, .bool v102), (11, .int .i64 v109), (73, .int .i64 v109), (74, .pointer (some (((⟨g27, 0, none⟩ : Addr) : Addr).add 2)))]) (by kernel_rfl) ?_ rfl
  clear hs; intro a hs
  refine go_run hs (op := (Op.load 24 (Operand.tmp 74))) (ty := 24) (dst := some 75) (g := none) (by kernel_rfl) (by kernel_rfl) (by kernel_rfl) (x_bld (g := g27) (o := 2) (p := ((⟨g27, 0, none⟩ : Addr) : Addr).add 2) (v := .slice Aa20 t14.Syms.length cc21) (hw.up 6) (by kernel_rfl) rfl (by kernel_rfl) (by kernel_rfl)) [5, 6, 7, 8, 9, 11, 73, 75] (L' := [(5, .bool t8), (6, .pointer (some (⟨g27, 0, none⟩ : Addr))), (7, .int .i64 y38), (8, .pointer (some (⟨g46, 0, none⟩ : Addr))), (9, .bool v102), (11, .int .i64 v109), (73, .int .i64 v109), (75, .slice Aa20 t14.Syms.length cc21)]) (by kernel_rfl) ?_
  clear hs; intro a hs
  refine go_pvs 3 5 [5, 6, 7, 8, 9, 11, 77] hs (L' := [(5, .bool t8), (6, .pointer (some (⟨g27, 0, none⟩ : Addr))), (7, .int .i64 y38), (8, .pointer (some (⟨g46, 0, none⟩ : Addr))), (9, .bool v102), (11, .int .i64 v109), (77, .bool (decide (v109 < (t14.Syms.length : Int))))]) (by kernel_rfl) ?_ rfl
  clear hs; intro a hs
  refine go_end (by kernel_rfl) ?_
  refine hK111 _ _ ?_
  refine go_cond hs (decide (v109 < (t14.Syms.length : Int))) (by kernel_rfl) (fun hc => ?_) (fun hc => ?_)
  ·replace H := ite_t H (of_decide_eq_true hc)
   have hb112 := hc
   rw [hb112] at hs
   refine wp_skip ?_
   refine hK110 _ _ ?_
   refine go_seq_k fun K113 hK113 => ?_
   have hJ3 : ∀ (Aa134 : Option Addr) (cc135 : Nat) (l133 : List Sapi_Sym) (a : Act) (w : World), Slots a 140 [(5, .bool t8), (6, .pointer (some (⟨g27, 0, none⟩ : Addr))), (7, .int .i64 y38), (8, .pointer (some (⟨g46, 0, none⟩ : Addr))), (9, .bool v102), (11, .int .i64 v109)] → St [] w0 w [own 39 eSapi_Sym Aa134 cc135 l133, own 3 (eI .i64) Aa100 cc101 l99, box g46 26 [.slice Aa41 (t14.Words.take (y38 : Int).toNat).length cc42, .slice Aa100 l99.length cc101, .slice Aa134 l133.length cc135], own 39 eSapi_Sym none 0 ([] : List Sapi_Sym), own 3 (eI .i64) none 0 ([] : List Int), own 37 (eI .u32) none 0 ([] : List Int), box g27 26 [.slice Aa16 t14.Words.length cc17, .slice Aa18 t14.Sites.length cc19, .slice Aa20 t14.Syms.length cc21], own 39 eSapi_Sym none 0 ([] : List Sapi_Sym), own 3 (eI .i64) none 0 ([] : List Int), own 37 (eI .u32) none 0 ([] : List Int), own 37 (eI .u32) Aa16 cc17 t14.Words, own 3 (eI .i64) Aa18 cc19 t14.Sites, own 39 eSapi_Sym Aa20 cc21 t14.Syms, box g2 35 [.slice A0_1 a0.Words.length c0_1, .slice A0_2 a0.Bits.length c0_2, .slice A0_3 a0.Names.length c0_3]] → rivetlaw09_ObjectParts.j3 v109 l133 = some o → K113 a w := by
    intro Aa134 cc135 l133 a w hs hw H
    unfold rivetlaw09_ObjectParts.j3 at H
    refine hK113 _ _ ?_
    refine go_region ?_
    refine go_pvs 0 3 [5, 6, 7, 8, 9, 11] hs (L' := [(5, .bool t8), (6, .pointer (some (⟨g27, 0, none⟩ : Addr))), (7, .int .i64 y38), (8, .pointer (some (⟨g46, 0, none⟩ : Addr))), (9, .bool v102), (11, .int .i64 (w64 (v109 + 1)))]) (by kernel_rfl) ?_ rfl
    clear hs; intro a hs
    refine go_end (by kernel_rfl) ?_
    replace hw := hw.up 13
    replace hw := hw.up 13
    replace hw := hw.up 13
    replace hw := hw.up 13
    replace hw := hw.up 13
    replace hw := hw.up 13
    replace hw := hw.up 13
    replace hw := hw.up 13
    replace hw := hw.up 13
    replace hw := hw.up 13
    replace hw := hw.up 13
    replace hw := hw.up 13
    replace hw := hw.up 13
    replace hw := hw.up 13
    replace hw := hw.only 14
    exact round_end (l133, w64 (v109 + 1)) (Option.some.inj H).symm ⟨Aa134, cc135, hs.keep [5, 6, 7, 8, 9, 11] (by kernel_rfl), hw⟩
   refine wp_block ?_
   refine go_seq_k fun K114 hK114 => ?_
   refine go_region ?_
   refine go_pvs 0 1 [5, 6, 7, 8, 9, 11, 80] hs (L' := [(5, .bool t8), (6, .pointer (some (⟨g27, 0, none⟩ : Addr))), (7, .int .i64 y38), (8, .pointer (some (⟨g46, 0, none⟩ : Addr))), (9, .bool v102), (11, .int .i64 v109), (80, .pointer (some (((⟨g27, 0, none⟩ : Addr) : Addr).add 2)))]) (by kernel_rfl) ?_ rfl
   clear hs; intro a hs
   refine go_run hs (op := (Op.load 24 (Operand.tmp 80))) (ty := 24) (dst := some 81) (g := none) (by kernel_rfl) (by kernel_rfl) (by kernel_rfl) (x_bld (g := g27) (o := 2) (p := ((⟨g27, 0, none⟩ : Addr) : Addr).add 2) (v := .slice Aa20 t14.Syms.length cc21) (hw.up 6) (by kernel_rfl) rfl (by kernel_rfl) (by kernel_rfl)) [5, 6, 7, 8, 9, 11, 81] (L' := [(5, .bool t8), (6, .pointer (some (⟨g27, 0, none⟩ : Addr))), (7, .int .i64 y38), (8, .pointer (some (⟨g46, 0, none⟩ : Addr))), (9, .bool v102), (11, .int .i64 v109), (81, .slice Aa20 t14.Syms.length cc21)]) (by kernel_rfl) ?_
   clear hs; intro a hs
   refine go_pvs 2 3 [5, 6, 7, 8, 9, 11, 81, 82] hs (L' := [(5, .bool t8), (6, .pointer (some (⟨g27, 0, none⟩ : Addr))), (7, .int .i64 y38), (8, .pointer (some (⟨g46, 0, none⟩ : Addr))), (9, .bool v102), (11, .int .i64 v109), (81, .slice Aa20 t14.Syms.length cc21), (82, .int .i64 v109)]) (by kernel_rfl) ?_ rfl
   clear hs; intro a hs
   obtain ⟨hp115, H⟩ := ite_only H
   obtain ⟨ad116, rfl⟩ := (Rd.of_own (hw.up 12)).some hp115.1 hp115.2
   refine go_run hs (op := (Op.indexAddr 24 (Operand.tmp 81) (Operand.tmp 82))) (ty := 0) (dst := some 83) (g := none) (by kernel_rfl) (by kernel_rfl) (by kernel_rfl) (x_idx (T := 39) (sz := 2) (a := ad116) (n := t14.Syms.length) (cap := cc21) (k := .i64) (i := v109) (by kernel_rfl) (by kernel_rfl) (by kernel_rfl) (by kernel_rfl) hp115.1 hp115.2) [5, 6, 7, 8, 9, 11, 83] (L' := [(5, .bool t8), (6, .pointer (some (⟨g27, 0, none⟩ : Addr))), (7, .int .i64 y38), (8, .pointer (some (⟨g46, 0, none⟩ : Addr))), (9, .bool v102), (11, .int .i64 v109), (83, .pointer (some (ad116.add (v109.toNat * 2))))]) (by kernel_rfl) ?_
   clear hs; intro a hs
   refine go_pvs 4 5 [5, 6, 7, 8, 9, 11, 84] hs (L' := [(5, .bool t8), (6, .pointer (some (⟨g27, 0, none⟩ : Addr))), (7, .int .i64 y38), (8, .pointer (some (⟨g46, 0, none⟩ : Addr))), (9, .bool v102), (11, .int .i64 v109), (84, .pointer (some ((ad116.add (v109.toNat * 2) : Addr).add 1)))]) (by kernel_rfl) ?_ rfl
   clear hs; intro a hs
   refine go_run hs (op := (Op.load 3 (Operand.tmp 84))) (ty := 3) (dst := some 85) (g := none) (by kernel_rfl) (by kernel_rfl) (by kernel_rfl) (x_ld (E := eSapi_Sym) (off := 1) (p := (ad116.add (v109.toNat * 2) : Addr).add 1) (v := .int .i64 ((ix eSapi_Sym.d t14.Syms v109).At)) (Rd.of_own (hw.up 12)) hp115.1 hp115.2 (by kernel_rfl) (by simp only [add_add', Nat.add_assoc]; rfl) (by kernel_rfl) (by kernel_rfl)) [5, 6, 7, 8, 9, 11, 85] (L' := [(5, .bool t8), (6, .pointer (some (⟨g27, 0, none⟩ : Addr))), (7, .int .i64 y38), (8, .pointer (some (⟨g46, 0, none⟩ : Addr))), (9, .bool v102), (11, .int .i64 v109), (85, .int .i64 ((ix eSapi_Sym.d t14.Syms v109).At))]) (by kernel_rfl) ?_
   clear hs; intro a hs
   refine go_pvs 6 9 [5, 6, 7, 8, 9, 11, 88] hs (L' := [(5, .bool t8), (6, .pointer (some (⟨g27, 0, none⟩ : Addr))), (7, .int .i64 y38), (8, .pointer (some (⟨g46, 0, none⟩ : Addr))), (9, .bool v102), (11, .int .i64 v109), (88, .bool (decide (((ix eSapi_Sym.d t14.Syms v109).At) ≤ (w64 (4 * y38)))))]) (by kernel_rfl) ?_ rfl
   clear hs; intro a hs
   refine go_end (by kernel_rfl) ?_
   refine hK114 _ _ ?_
   refine go_cond hs (decide (((ix eSapi_Sym.d t14.Syms v109).At) ≤ (w64 (4 * y38)))) (by kernel_rfl) (fun hc => ?_) (fun hc => ?_)
   ·replace H := ite_t H (of_decide_eq_true hc)
    have hb117 := hc
    rw [hb117] at hs
    refine d_region [8, 10] [(true, [0, 1, 2, 3, 4, 5, 6], 7), (true, [], 8), (false, [9], 10)] [] (by kernel_rfl) (by kernel_rfl) (fun c a d v w h => by cases d <;> exact h) ?_
    refine d_seg ?_
    refine c_pvs [0] [1, 2, 3, 4, 5, 6] [5, 6, 7, 8, 9, 11, 89] hs (L' := [(5, .bool t8), (6, .pointer (some (⟨g27, 0, none⟩ : Addr))), (7, .int .i64 y38), (8, .pointer (some (⟨g46, 0, none⟩ : Addr))), (9, .bool v102), (11, .int .i64 v109), (89, .pointer (some (((⟨g46, 0, none⟩ : Addr) : Addr).add 2)))]) (by kernel_rfl) ?_ (by kernel_rfl)
    clear hs; intro a hs
    refine d_run hs (op := (Op.load 24 (Operand.tmp 89))) (ty := 24) (dst := some 90) (g := none) (by kernel_rfl) (by kernel_rfl) (by kernel_rfl) (fun wx hbx => (x_bldD (g := g46) (o := 2) (p := ((⟨g46, 0, none⟩ : Addr) : Addr).add 2) (v := .slice Aa107 l106.length cc108) (hw.up 2) hbx (by kernel_rfl) rfl (by kernel_rfl) (by kernel_rfl))) [5, 6, 7, 8, 9, 11, 90] (L' := [(5, .bool t8), (6, .pointer (some (⟨g27, 0, none⟩ : Addr))), (7, .int .i64 y38), (8, .pointer (some (⟨g46, 0, none⟩ : Addr))), (9, .bool v102), (11, .int .i64 v109), (90, .slice Aa107 l106.length cc108)]) (by kernel_rfl) ?_
    clear hs; intro a hs
    refine c_pvs [2] [3, 4, 5, 6] [5, 6, 7, 8, 9, 11, 90, 91] hs (L' := [(5, .bool t8), (6, .pointer (some (⟨g27, 0, none⟩ : Addr))), (7, .int .i64 y38), (8, .pointer (some (⟨g46, 0, none⟩ : Addr))), (9, .bool v102), (11, .int .i64 v109), (90, .slice Aa107 l106.length cc108), (91, .pointer (some (((⟨g27, 0, none⟩ : Addr) : Addr).add 2)))]) (by kernel_rfl) ?_ (by kernel_rfl)
    clear hs; intro a hs
    refine d_run hs (op := (Op.load 24 (Operand.tmp 91))) (ty := 24) (dst := some 92) (g := none) (by kernel_rfl) (by kernel_rfl) (by kernel_rfl) (fun wx hbx => (x_bldD (g := g27) (o := 2) (p := ((⟨g27, 0, none⟩ : Addr) : Addr).add 2) (v := .slice (some ad116) t14.Syms.length cc21) (hw.up 6) hbx (by kernel_rfl) rfl (by kernel_rfl) (by kernel_rfl))) [5, 6, 7, 8, 9, 11, 90, 92] (L' := [(5, .bool t8), (6, .pointer (some (⟨g27, 0, none⟩ : Addr))), (7, .int .i64 y38), (8, .pointer (some (⟨g46, 0, none⟩ : Addr))), (9, .bool v102), (11, .int .i64 v109), (90, .slice Aa107 l106.length cc108), (92, .slice (some ad116) t14.Syms.length cc21)]) (by kernel_rfl) ?_
    clear hs; intro a hs
    refine c_pvs [4] [5, 6] [5, 6, 7, 8, 9, 11, 90, 92, 93] hs (L' := [(5, .bool t8), (6, .pointer (some (⟨g27, 0, none⟩ : Addr))), (7, .int .i64 y38), (8, .pointer (some (⟨g46, 0, none⟩ : Addr))), (9, .bool v102), (11, .int .i64 v109), (90, .slice Aa107 l106.length cc108), (92, .slice (some ad116) t14.Syms.length cc21), (93, .int .i64 v109)]) (by kernel_rfl) ?_ (by kernel_rfl)
    clear hs; intro a hs
    obtain ⟨hp118, H⟩ := ite_only H
    refine d_run hs (op := (Op.indexAddr 24 (Operand.tmp 92) (Operand.tmp 93))) (ty := 0) (dst := some 94) (g := none) (by kernel_rfl) (by kernel_rfl) (by kernel_rfl) (fun wx hbx => (x_idx (T := 39) (sz := 2) (a := ad116) (n := t14.Syms.length) (cap := cc21) (k := .i64) (i := v109) (by kernel_rfl) (by kernel_rfl) (by kernel_rfl) (by kernel_rfl) hp118.1 hp118.2)) [5, 6, 7, 8, 9, 11, 90, 94] (L' := [(5, .bool t8), (6, .pointer (some (⟨g27, 0, none⟩ : Addr))), (7, .int .i64 y38), (8, .pointer (some (⟨g46, 0, none⟩ : Addr))), (9, .bool v102), (11, .int .i64 v109), (90, .slice Aa107 l106.length cc108), (94, .pointer (some (ad116.add (v109.toNat * 2))))]) (by kernel_rfl) ?_
    clear hs; intro a hs
    refine d_run hs (op := (Op.load 39 (Operand.tmp 94))) (ty := 39) (dst := some 95) (g := none) (by kernel_rfl) (by kernel_rfl) (by kernel_rfl) (fun wx hbx => (x_lds (E := eSapi_Sym) (off := 0) (p := ad116.add (v109.toNat * 2)) (cs := [.string ((ix eSapi_Sym.d t14.Syms v109).Name), .int .i64 ((ix eSapi_Sym.d t14.Syms v109).At)]) (Rd.bn (Rd.of_own (hw.up 12)) hbx) hp118.1 hp118.2 (by kernel_rfl) rfl (by kernel_rfl) (by kernel_rfl) (by kernel_rfl))) [5, 6, 7, 8, 9, 11, 90, 95] (L' := [(5, .bool t8), (6, .pointer (some (⟨g27, 0, none⟩ : Addr))), (7, .int .i64 y38), (8, .pointer (some (⟨g46, 0, none⟩ : Addr))), (9, .bool v102), (11, .int .i64 v109), (90, .slice Aa107 l106.length cc108), (95, .agg #[.string ((ix eSapi_Sym.d t14.Syms v109).Name), .int .i64 ((ix eSapi_Sym.d t14.Syms v109).At)])]) (by kernel_rfl) ?_
    clear hs; intro a hs
    refine c_end ?_
    intro wq hbq
    replace hw := hw.behind hbq
    have hbc := Below.refl wq.heap.size wq
    obtain ⟨Aa119, cc120, wd121, hx122, hwn⟩ := n_lit (P := Tryd.prog) (t := 24) (ty := 24) (T := 39) (len := 1) (parts := #[(0, (Operand.tmp 95))]) (z := .agg #[.string (⟨#[]⟩ : ByteArray), .int .i64 0]) (bytes := 24) (cells := #[.string ((ix eSapi_Sym.d t14.Syms v109).Name), .int .i64 ((ix eSapi_Sym.d t14.Syms v109).At)]) hs (nil_of hw) eSapi_Sym ([(ix eSapi_Sym.d t14.Syms v109)] : List Sapi_Sym) (by kernel_rfl) (by kernel_rfl) (by kernel_rfl) (by kernel_rfl) (by kernel_rfl) (by kernel_rfl) (by kernel_rfl)
    replace hbc := hwn.below
    replace hw := hw.call hwn
    clear hwn
    refine p_run hs (op := (Op.buildSlice 24 1 #[(0, (Operand.tmp 95))])) (ty := 24) (dst := some 96) (g := none) (by kernel_rfl) (by kernel_rfl) (by kernel_rfl) hx122 [5, 6, 7, 8, 9, 11, 90, 96] (L' := [(5, .bool t8), (6, .pointer (some (⟨g27, 0, none⟩ : Addr))), (7, .int .i64 y38), (8, .pointer (some (⟨g46, 0, none⟩ : Addr))), (9, .bool v102), (11, .int .i64 v109), (90, .slice Aa107 l106.length cc108), (96, .slice Aa119 ([(ix eSapi_Sym.d t14.Syms v109)] : List Sapi_Sym).length cc120)]) (by kernel_rfl) ?_
    clear hs; intro a hs
    refine c_done ⟨.inr (bn_of hbq hbc), ?_⟩
    clear hbc hbq
    refine d_seg ?_
    refine c_end ?_
    intro wq hbq
    replace hw := hw.behind hbq
    obtain ⟨hp124, H⟩ := ite_only H
    have hsrc129 : Src Tryd.prog eSapi_Sym.sz 24 (.slice Aa119 ([(ix eSapi_Sym.d t14.Syms v109)] : List Sapi_Sym).length cc120) ([(ix eSapi_Sym.d t14.Syms v109)] : List Sapi_Sym).length (([(ix eSapi_Sym.d t14.Syms v109)] : List Sapi_Sym).flatMap eSapi_Sym.enc) _ := (Src.of_rd (E := eSapi_Sym) (e' := 39) (by kernel_rfl) (Rd.of_own (hw.up 0)))
    replace hw := hw.up 1
    obtain ⟨Aa125, cc126, wd127, hx128, hw⟩ := x_append (P := Tryd.prog) (t := 24) (tx := 24) (ty := 24) (x := (Operand.tmp 90)) (y := (Operand.tmp 96)) (z := .agg #[.string (⟨#[]⟩ : ByteArray), .int .i64 0]) (bytes := 24) (l2 := ([(ix eSapi_Sym.d t14.Syms v109)] : List Sapi_Sym)) hs hw (by kernel_rfl) (by kernel_rfl) (by kernel_rfl) (by kernel_rfl) (by kernel_rfl) hsrc129 (by omega) (by omega)
    refine p_run hs (op := (Op.call { callee := (Callee.builtin Builtin.append), args := #[(Operand.tmp 90), (Operand.tmp 96)], argTypes := #[24, 24] })) (ty := 24) (dst := some 97) (g := none) (by kernel_rfl) (by kernel_rfl) (by kernel_rfl) hx128 [5, 6, 7, 8, 9, 11, 97] (L' := [(5, .bool t8), (6, .pointer (some (⟨g27, 0, none⟩ : Addr))), (7, .int .i64 y38), (8, .pointer (some (⟨g46, 0, none⟩ : Addr))), (9, .bool v102), (11, .int .i64 v109), (97, .slice Aa125 (l106 ++ ([(ix eSapi_Sym.d t14.Syms v109)] : List Sapi_Sym)).length cc126)]) (by kernel_rfl) ?_
    clear hs; intro a hs
    refine c_done ⟨.inl (by kernel_rfl), ?_⟩
    clear hbq
    refine d_seg0 ?_
    refine c_pvs [9] [] [5, 6, 7, 8, 9, 11, 97, 98] hs (L' := [(5, .bool t8), (6, .pointer (some (⟨g27, 0, none⟩ : Addr))), (7, .int .i64 y38), (8, .pointer (some (⟨g46, 0, none⟩ : Addr))), (9, .bool v102), (11, .int .i64 v109), (97, .slice Aa125 (l106 ++ ([(ix eSapi_Sym.d t14.Syms v109)] : List Sapi_Sym)).length cc126), (98, .pointer (some (((⟨g46, 0, none⟩ : Addr) : Addr).add 2)))]) (by kernel_rfl) ?_ (by kernel_rfl)
    clear hs; intro a hs
    refine c_end ?_
    intro wq hbq
    replace hw := hw.behind hbq
    replace hw := hw.up 3
    obtain ⟨wd130, hx131, hw⟩ := x_bput (P := Tryd.prog) (ty := 0) (t := 24) (y := (Operand.tmp 98)) (z := (Operand.tmp 97)) (o := 2) (p := ((⟨g46, 0, none⟩ : Addr) : Addr).add 2) (v := .slice Aa125 (l106 ++ ([(ix eSapi_Sym.d t14.Syms v109)] : List Sapi_Sym)).length cc126) (vs := [.slice Aa125 (l106 ++ ([(ix eSapi_Sym.d t14.Syms v109)] : List Sapi_Sym)).length cc126]) (cs' := [.slice Aa41 (t14.Words.take (y38 : Int).toNat).length cc42, .slice Aa100 l99.length cc101, .slice Aa125 (l106 ++ ([(ix eSapi_Sym.d t14.Syms v109)] : List Sapi_Sym)).length cc126]) hs hw (by kernel_rfl) rfl (by kernel_rfl) rfl (by kernel_rfl) (by kernel_rfl) (by simp [Value.oneCell']) rfl
    refine p_unit hs (op := (Op.store 24 (Operand.tmp 98) (Operand.tmp 97))) (ty := 0) (dst := none) (g := none) (by kernel_rfl) (by kernel_rfl) (by kernel_rfl) hx131 [5, 6, 7, 8, 9, 11] (L' := [(5, .bool t8), (6, .pointer (some (⟨g27, 0, none⟩ : Addr))), (7, .int .i64 y38), (8, .pointer (some (⟨g46, 0, none⟩ : Addr))), (9, .bool v102), (11, .int .i64 v109)]) (by kernel_rfl) ?_
    clear hs; intro a hs
    refine c_done ⟨.inl (by kernel_rfl), ?_⟩
    clear hbq
    refine d_last ?_
    refine c_end ?_
    intro wq hbq
    replace hw := hw.behind hbq
    refine ib_norm ?_
    replace hw := hw.up 14
    replace hw := hw.up 14
    replace hw := hw.up 14
    replace hw := hw.up 14
    replace hw := hw.up 14
    replace hw := hw.up 14
    replace hw := hw.up 14
    replace hw := hw.up 14
    replace hw := hw.up 14
    replace hw := hw.up 14
    replace hw := hw.up 14
    replace hw := hw.up 11
    replace hw := hw.up 14
    replace hw := hw.up 13
    replace hw := hw.only 14
    exact hJ3 Aa125 cc126 (l106 ++ ([(ix eSapi_Sym.d t14.Syms v109)] : List Sapi_Sym)) _ _ (hs.keep [5, 6, 7, 8, 9, 11] (by kernel_rfl)) hw H
   ·replace H := ite_f H (of_decide_eq_false hc)
    have hb132 := hc
    rw [hb132] at hs
    refine wp_skip ?_
    refine ib_norm ?_
    replace hw := hw.up 13
    replace hw := hw.up 13
    replace hw := hw.up 13
    replace hw := hw.up 13
    replace hw := hw.up 13
    replace hw := hw.up 13
    replace hw := hw.up 13
    replace hw := hw.up 13
    replace hw := hw.up 13
    replace hw := hw.up 13
    replace hw := hw.up 13
    replace hw := hw.up 13
    replace hw := hw.up 13
    replace hw := hw.up 13
    replace hw := hw.only 14
    exact hJ3 Aa107 cc108 l106 _ _ (hs.keep [5, 6, 7, 8, 9, 11] (by kernel_rfl)) hw H
  ·replace H := ite_f H (of_decide_eq_false hc)
   have hb136 := hc
   rw [hb136] at hs
   refine wp_exit ?_
   refine th_exit ?_
   refine th_exit ?_
   refine in_block ?_
   replace hw := hw.up 13
   replace hw := hw.up 13
   replace hw := hw.up 13
   replace hw := hw.up 13
   replace hw := hw.up 13
   replace hw := hw.up 13
   replace hw := hw.up 13
   replace hw := hw.up 13
   replace hw := hw.up 13
   replace hw := hw.up 13
   replace hw := hw.up 13
   replace hw := hw.up 13
   replace hw := hw.up 13
   replace hw := hw.up 13
   replace hw := hw.only 14
   rw [← hr105 _ (Option.some.inj H).symm] at HX105
   exact hJ4 Aa107 cc108 l106 _ _ (hs.keep [5, 6, 8, 9] (by kernel_rfl)) hw HX105
 clear H
 refine go_loop (σ := (List Int) × Bool × Int) (fun σ a w => ∃ Aa62, ∃ cc63, Slots a 140 [(5, .bool t8), (6, .pointer (some (⟨g27, 0, none⟩ : Addr))), (7, .int .i64 y38), (8, .pointer (some (⟨g46, 0, none⟩ : Addr))), (9, .bool σ.2.1), (10, .int .i64 σ.2.2)] ∧ St [] w0 w [own 39 eSapi_Sym none 0 ([] : List Sapi_Sym), own 3 (eI .i64) Aa62 cc63 σ.1, box g46 26 [.slice Aa41 (t14.Words.take (y38 : Int).toNat).length cc42, .slice Aa62 σ.1.length cc63, .slice none ([] : List Sapi_Sym).length 0], own 39 eSapi_Sym none 0 ([] : List Sapi_Sym), own 3 (eI .i64) none 0 ([] : List Int), own 37 (eI .u32) none 0 ([] : List Int), box g27 26 [.slice Aa16 t14.Words.length cc17, .slice Aa18 t14.Sites.length cc19, .slice Aa20 t14.Syms.length cc21], own 39 eSapi_Sym none 0 ([] : List Sapi_Sym), own 3 (eI .i64) none 0 ([] : List Int), own 37 (eI .u32) none 0 ([] : List Int), own 37 (eI .u32) Aa16 cc17 t14.Words, own 3 (eI .i64) Aa18 cc19 t14.Sites, own 39 eSapi_Sym Aa20 cc21 t14.Syms, box g2 35 [.slice A0_1 a0.Words.length c0_1, .slice A0_2 a0.Bits.length c0_2, .slice A0_3 a0.Names.length c0_3]]) hl60 (by exact ⟨none, 0, hs.keep [5, 6, 7, 8, 9, 10] (by kernel_rfl), hw⟩) ?_
 rintro ⟨l61, v64, v65⟩ a w ⟨Aa62, cc63, hs, hw⟩ o H hr60
 replace hs : Slots a 140 [(5, .bool t8), (6, .pointer (some (⟨g27, 0, none⟩ : Addr))), (7, .int .i64 y38), (8, .pointer (some (⟨g46, 0, none⟩ : Addr))), (9, .bool v64), (10, .int .i64 v65)] := hs
 replace hw : St [] w0 w [own 39 eSapi_Sym none 0 ([] : List Sapi_Sym), own 3 (eI .i64) Aa62 cc63 l61, box g46 26 [.slice Aa41 (t14.Words.take (y38 : Int).toNat).length cc42, .slice Aa62 l61.length cc63, .slice none ([] : List Sapi_Sym).length 0], own 39 eSapi_Sym none 0 ([] : List Sapi_Sym), own 3 (eI .i64) none 0 ([] : List Int), own 37 (eI .u32) none 0 ([] : List Int), box g27 26 [.slice Aa16 t14.Words.length cc17, .slice Aa18 t14.Sites.length cc19, .slice Aa20 t14.Syms.length cc21], own 39 eSapi_Sym none 0 ([] : List Sapi_Sym), own 3 (eI .i64) none 0 ([] : List Int), own 37 (eI .u32) none 0 ([] : List Int), own 37 (eI .u32) Aa16 cc17 t14.Words, own 3 (eI .i64) Aa18 cc19 t14.Sites, own 39 eSapi_Sym Aa20 cc21 t14.Syms, box g2 35 [.slice A0_1 a0.Words.length c0_1, .slice A0_2 a0.Bits.length c0_2, .slice A0_3 a0.Names.length c0_3]] := hw
 replace H : rivetlaw09_ObjectParts.b60 t14 y38 l61 v64 v65 = some o := H
 unfold rivetlaw09_ObjectParts.b60 at H
 refine go_seq_k fun K66 hK66 => ?_
 refine go_seq_k fun K67 hK67 => ?_
 refine go_region ?_
 refine go_pvs 0 2 [5, 6, 7, 8, 9, 10, 33, 34] hs (L' := [(5, .bool t8), (6, .pointer (some (⟨g27, 0, none⟩ : Addr))), (7, .int .i64 y38), (8, .pointer (some (⟨g46, 0, none⟩ : Addr))), (9, .bool v64), (10, .int .i64 v65), (33, .int .i64 v65), (34, .pointer (some (((⟨g27, 0, none⟩ : Addr) : Addr).add 1)))]) (by kernel_rfl) ?_ rfl
 clear hs; intro a hs
 refine go_run hs (op := (Op.load 23 (Operand.tmp 34))) (ty := 23) (dst := some 35) (g := none) (by kernel_rfl) (by kernel_rfl) (by kernel_rfl) (x_bld (g := g27) (o := 1) (p := ((⟨g27, 0, none⟩ : Addr) : Addr).add 1) (v := .slice Aa18 t14.Sites.length cc19) (hw.up 6) (by kernel_rfl) rfl (by kernel_rfl) (by kernel_rfl)) [5, 6, 7, 8, 9, 10, 33, 35] (L' := [(5, .bool t8), (6, .pointer (some (⟨g27, 0, none⟩ : Addr))), (7, .int .i64 y38), (8, .pointer (some (⟨g46, 0, none⟩ : Addr))), (9, .bool v64), (10, .int .i64 v65), (33, .int .i64 v65), (35, .slice Aa18 t14.Sites.length cc19)]) (by kernel_rfl) ?_
 clear hs; intro a hs
 refine go_pvs 3 5 [5, 6, 7, 8, 9, 10, 37] hs (L' := [(5, .bool t8), (6, .pointer (some (⟨g27, 0, none⟩ : Addr))), (7, .int .i64 y38), (8, .pointer (some (⟨g46, 0, none⟩ : Addr))), (9, .bool v64), (10, .int .i64 v65), (37, .bool (decide (v65 < (t14.Sites.length : Int))))]) (by kernel_rfl) ?_ rfl
 clear hs; intro a hs
 refine go_end (by kernel_rfl) ?_
 refine hK67 _ _ ?_
 refine go_cond hs (decide (v65 < (t14.Sites.length : Int))) (by kernel_rfl) (fun hc => ?_) (fun hc => ?_)
 ·replace H := ite_t H (of_decide_eq_true hc)
  have hb68 := hc
  rw [hb68] at hs
  refine wp_skip ?_
  refine hK66 _ _ ?_
  refine go_seq_k fun K69 hK69 => ?_
  have hJ1 : ∀ (Aa95 : Option Addr) (cc96 : Nat) (l94 : List Int) (v97 : Bool) (a : Act) (w : World), Slots a 140 [(5, .bool t8), (6, .pointer (some (⟨g27, 0, none⟩ : Addr))), (7, .int .i64 y38), (8, .pointer (some (⟨g46, 0, none⟩ : Addr))), (9, .bool v97), (10, .int .i64 v65)] → St [] w0 w [own 39 eSapi_Sym none 0 ([] : List Sapi_Sym), own 3 (eI .i64) Aa95 cc96 l94, box g46 26 [.slice Aa41 (t14.Words.take (y38 : Int).toNat).length cc42, .slice Aa95 l94.length cc96, .slice none ([] : List Sapi_Sym).length 0], own 39 eSapi_Sym none 0 ([] : List Sapi_Sym), own 3 (eI .i64) none 0 ([] : List Int), own 37 (eI .u32) none 0 ([] : List Int), box g27 26 [.slice Aa16 t14.Words.length cc17, .slice Aa18 t14.Sites.length cc19, .slice Aa20 t14.Syms.length cc21], own 39 eSapi_Sym none 0 ([] : List Sapi_Sym), own 3 (eI .i64) none 0 ([] : List Int), own 37 (eI .u32) none 0 ([] : List Int), own 37 (eI .u32) Aa16 cc17 t14.Words, own 3 (eI .i64) Aa18 cc19 t14.Sites, own 39 eSapi_Sym Aa20 cc21 t14.Syms, box g2 35 [.slice A0_1 a0.Words.length c0_1, .slice A0_2 a0.Bits.length c0_2, .slice A0_3 a0.Names.length c0_3]] → rivetlaw09_ObjectParts.j1 v65 l94 v97 = some o → K69 a w := by
   intro Aa95 cc96 l94 v97 a w hs hw H
   unfold rivetlaw09_ObjectParts.j1 at H
   refine hK69 _ _ ?_
   refine go_region ?_
   refine go_pvs 0 3 [5, 6, 7, 8, 9, 10] hs (L' := [(5, .bool t8), (6, .pointer (some (⟨g27, 0, none⟩ : Addr))), (7, .int .i64 y38), (8, .pointer (some (⟨g46, 0, none⟩ : Addr))), (9, .bool v97), (10, .int .i64 (w64 (v65 + 1)))]) (by kernel_rfl) ?_ rfl
   clear hs; intro a hs
   refine go_end (by kernel_rfl) ?_
   replace hw := hw.up 13
   replace hw := hw.up 13
   replace hw := hw.up 13
   replace hw := hw.up 13
   replace hw := hw.up 13
   replace hw := hw.up 13
   replace hw := hw.up 13
   replace hw := hw.up 13
   replace hw := hw.up 13
   replace hw := hw.up 13
   replace hw := hw.up 13
   replace hw := hw.up 13
   replace hw := hw.up 13
   replace hw := hw.up 13
   replace hw := hw.only 14
   exact round_end (l94, v97, w64 (v65 + 1)) (Option.some.inj H).symm ⟨Aa95, cc96, hs.keep [5, 6, 7, 8, 9, 10] (by kernel_rfl), hw⟩
  refine wp_block ?_
  refine go_seq_k fun K70 hK70 => ?_
  refine go_region ?_
  refine go_pvs 0 1 [5, 6, 7, 8, 9, 10, 40] hs (L' := [(5, .bool t8), (6, .pointer (some (⟨g27, 0, none⟩ : Addr))), (7, .int .i64 y38), (8, .pointer (some (⟨g46, 0, none⟩ : Addr))), (9, .bool v64), (10, .int .i64 v65), (40, .pointer (some (((⟨g27, 0, none⟩ : Addr) : Addr).add 1)))]) (by kernel_rfl) ?_ rfl
  clear hs; intro a hs
  refine go_run hs (op := (Op.load 23 (Operand.tmp 40))) (ty := 23) (dst := some 41) (g := none) (by kernel_rfl) (by kernel_rfl) (by kernel_rfl) (x_bld (g := g27) (o := 1) (p := ((⟨g27, 0, none⟩ : Addr) : Addr).add 1) (v := .slice Aa18 t14.Sites.length cc19) (hw.up 6) (by kernel_rfl) rfl (by kernel_rfl) (by kernel_rfl)) [5, 6, 7, 8, 9, 10, 41] (L' := [(5, .bool t8), (6, .pointer (some (⟨g27, 0, none⟩ : Addr))), (7, .int .i64 y38), (8, .pointer (some (⟨g46, 0, none⟩ : Addr))), (9, .bool v64), (10, .int .i64 v65), (41, .slice Aa18 t14.Sites.length cc19)]) (by kernel_rfl) ?_
  clear hs; intro a hs
  refine go_pvs 2 3 [5, 6, 7, 8, 9, 10, 41, 42] hs (L' := [(5, .bool t8), (6, .pointer (some (⟨g27, 0, none⟩ : Addr))), (7, .int .i64 y38), (8, .pointer (some (⟨g46, 0, none⟩ : Addr))), (9, .bool v64), (10, .int .i64 v65), (41, .slice Aa18 t14.Sites.length cc19), (42, .int .i64 v65)]) (by kernel_rfl) ?_ rfl
  clear hs; intro a hs
  obtain ⟨hp71, H⟩ := ite_only H
  obtain ⟨ad72, rfl⟩ := (Rd.of_own (hw.up 11)).some hp71.1 hp71.2
  refine go_run hs (op := (Op.indexAddr 23 (Operand.tmp 41) (Operand.tmp 42))) (ty := 0) (dst := some 43) (g := none) (by kernel_rfl) (by kernel_rfl) (by kernel_rfl) (x_idx (T := 3) (sz := 1) (a := ad72) (n := t14.Sites.length) (cap := cc19) (k := .i64) (i := v65) (by kernel_rfl) (by kernel_rfl) (by kernel_rfl) (by kernel_rfl) hp71.1 hp71.2) [5, 6, 7, 8, 9, 10, 43] (L' := [(5, .bool t8), (6, .pointer (some (⟨g27, 0, none⟩ : Addr))), (7, .int .i64 y38), (8, .pointer (some (⟨g46, 0, none⟩ : Addr))), (9, .bool v64), (10, .int .i64 v65), (43, .pointer (some (ad72.add (v65.toNat * 1))))]) (by kernel_rfl) ?_
  clear hs; intro a hs
  refine go_run hs (op := (Op.load 3 (Operand.tmp 43))) (ty := 3) (dst := some 44) (g := none) (by kernel_rfl) (by kernel_rfl) (by kernel_rfl) (x_ld (E := (eI .i64)) (off := 0) (p := ad72.add (v65.toNat * 1)) (v := .int .i64 (ix (eI .i64).d t14.Sites v65)) (Rd.of_own (hw.up 11)) hp71.1 hp71.2 (by kernel_rfl) rfl (by kernel_rfl) (by kernel_rfl)) [5, 6, 7, 8, 9, 10, 44] (L' := [(5, .bool t8), (6, .pointer (some (⟨g27, 0, none⟩ : Addr))), (7, .int .i64 y38), (8, .pointer (some (⟨g46, 0, none⟩ : Addr))), (9, .bool v64), (10, .int .i64 v65), (44, .int .i64 (ix (eI .i64).d t14.Sites v65))]) (by kernel_rfl) ?_
  clear hs; intro a hs
  refine go_pvs 5 7 [5, 6, 7, 8, 9, 10, 46] hs (L' := [(5, .bool t8), (6, .pointer (some (⟨g27, 0, none⟩ : Addr))), (7, .int .i64 y38), (8, .pointer (some (⟨g46, 0, none⟩ : Addr))), (9, .bool v64), (10, .int .i64 v65), (46, .bool (decide ((ix (eI .i64).d t14.Sites v65) < y38)))]) (by kernel_rfl) ?_ rfl
  clear hs; intro a hs
  refine go_end (by kernel_rfl) ?_
  refine hK70 _ _ ?_
  refine go_cond hs (decide ((ix (eI .i64).d t14.Sites v65) < y38)) (by kernel_rfl) (fun hc => ?_) (fun hc => ?_)
  ·replace H := ite_t H (of_decide_eq_true hc)
   have hb73 := hc
   rw [hb73] at hs
   refine go_seq_k fun K74 hK74 => ?_
   refine d_region [8, 10] [(true, [0, 1, 2, 3, 4, 5, 6], 7), (true, [], 8), (false, [9], 10)] [] (by kernel_rfl) (by kernel_rfl) (fun c a d v w h => by cases d <;> exact h) ?_
   refine d_seg ?_
   refine c_pvs [0] [1, 2, 3, 4, 5, 6] [5, 6, 7, 8, 9, 10, 47] hs (L' := [(5, .bool t8), (6, .pointer (some (⟨g27, 0, none⟩ : Addr))), (7, .int .i64 y38), (8, .pointer (some (⟨g46, 0, none⟩ : Addr))), (9, .bool v64), (10, .int .i64 v65), (47, .pointer (some (((⟨g46, 0, none⟩ : Addr) : Addr).add 1)))]) (by kernel_rfl) ?_ (by kernel_rfl)
   clear hs; intro a hs
   refine d_run hs (op := (Op.load 23 (Operand.tmp 47))) (ty := 23) (dst := some 48) (g := none) (by kernel_rfl) (by kernel_rfl) (by kernel_rfl) (fun wx hbx => (x_bldD (g := g46) (o := 1) (p := ((⟨g46, 0, none⟩ : Addr) : Addr).add 1) (v := .slice Aa62 l61.length cc63) (hw.up 2) hbx (by kernel_rfl) rfl (by kernel_rfl) (by kernel_rfl))) [5, 6, 7, 8, 9, 10, 48] (L' := [(5, .bool t8), (6, .pointer (some (⟨g27, 0, none⟩ : Addr))), (7, .int .i64 y38), (8, .pointer (some (⟨g46, 0, none⟩ : Addr))), (9, .bool v64), (10, .int .i64 v65), (48, .slice Aa62 l61.length cc63)]) (by kernel_rfl) ?_
   clear hs; intro a hs
   refine c_pvs [2] [3, 4, 5, 6] [5, 6, 7, 8, 9, 10, 48, 49] hs (L' := [(5, .bool t8), (6, .pointer (some (⟨g27, 0, none⟩ : Addr))), (7, .int .i64 y38), (8, .pointer (some (⟨g46, 0, none⟩ : Addr))), (9, .bool v64), (10, .int .i64 v65), (48, .slice Aa62 l61.length cc63), (49, .pointer (some (((⟨g27, 0, none⟩ : Addr) : Addr).add 1)))]) (by kernel_rfl) ?_ (by kernel_rfl)
   clear hs; intro a hs
   refine d_run hs (op := (Op.load 23 (Operand.tmp 49))) (ty := 23) (dst := some 50) (g := none) (by kernel_rfl) (by kernel_rfl) (by kernel_rfl) (fun wx hbx => (x_bldD (g := g27) (o := 1) (p := ((⟨g27, 0, none⟩ : Addr) : Addr).add 1) (v := .slice (some ad72) t14.Sites.length cc19) (hw.up 6) hbx (by kernel_rfl) rfl (by kernel_rfl) (by kernel_rfl))) [5, 6, 7, 8, 9, 10, 48, 50] (L' := [(5, .bool t8), (6, .pointer (some (⟨g27, 0, none⟩ : Addr))), (7, .int .i64 y38), (8, .pointer (some (⟨g46, 0, none⟩ : Addr))), (9, .bool v64), (10, .int .i64 v65), (48, .slice Aa62 l61.length cc63), (50, .slice (some ad72) t14.Sites.length cc19)]) (by kernel_rfl) ?_
   clear hs; intro a hs
   refine c_pvs [4] [5, 6] [5, 6, 7, 8, 9, 10, 48, 50, 51] hs (L' := [(5, .bool t8), (6, .pointer (some (⟨g27, 0, none⟩ : Addr))), (7, .int .i64 y38), (8, .pointer (some (⟨g46, 0, none⟩ : Addr))), (9, .bool v64), (10, .int .i64 v65), (48, .slice Aa62 l61.length cc63), (50, .slice (some ad72) t14.Sites.length cc19), (51, .int .i64 v65)]) (by kernel_rfl) ?_ (by kernel_rfl)
   clear hs; intro a hs
   obtain ⟨hp75, H⟩ := ite_only H
   refine d_run hs (op := (Op.indexAddr 23 (Operand.tmp 50) (Operand.tmp 51))) (ty := 0) (dst := some 52) (g := none) (by kernel_rfl) (by kernel_rfl) (by kernel_rfl) (fun wx hbx => (x_idx (T := 3) (sz := 1) (a := ad72) (n := t14.Sites.length) (cap := cc19) (k := .i64) (i := v65) (by kernel_rfl) (by kernel_rfl) (by kernel_rfl) (by kernel_rfl) hp75.1 hp75.2)) [5, 6, 7, 8, 9, 10, 48, 52] (L' := [(5, .bool t8), (6, .pointer (some (⟨g27, 0, none⟩ : Addr))), (7, .int .i64 y38), (8, .pointer (some (⟨g46, 0, none⟩ : Addr))), (9, .bool v64), (10, .int .i64 v65), (48, .slice Aa62 l61.length cc63), (52, .pointer (some (ad72.add (v65.toNat * 1))))]) (by kernel_rfl) ?_
   clear hs; intro a hs
   refine d_run hs (op := (Op.load 3 (Operand.tmp 52))) (ty := 3) (dst := some 53) (g := none) (by kernel_rfl) (by kernel_rfl) (by kernel_rfl) (fun wx hbx => (x_ld (E := (eI .i64)) (off := 0) (p := ad72.add (v65.toNat * 1)) (v := .int .i64 (ix (eI .i64).d t14.Sites v65)) (Rd.bn (Rd.of_own (hw.up 11)) hbx) hp75.1 hp75.2 (by kernel_rfl) rfl (by kernel_rfl) (by kernel_rfl))) [5, 6, 7, 8, 9, 10, 48, 53] (L' := [(5, .bool t8), (6, .pointer (some (⟨g27, 0, none⟩ : Addr))), (7, .int .i64 y38), (8, .pointer (some (⟨g46, 0, none⟩ : Addr))), (9, .bool v64), (10, .int .i64 v65), (48, .slice Aa62 l61.length cc63), (53, .int .i64 (ix (eI .i64).d t14.Sites v65))]) (by kernel_rfl) ?_
   clear hs; intro a hs
   refine c_end ?_
   intro wq hbq
   replace hw := hw.behind hbq
   have hbc := Below.refl wq.heap.size wq
   obtain ⟨Aa76, cc77, wd78, hx79, hwn⟩ := n_lit (P := Tryd.prog) (t := 23) (ty := 23) (T := 3) (len := 1) (parts := #[(0, (Operand.tmp 53))]) (z := .int .i64 0) (bytes := 8) (cells := #[.int .i64 (ix (eI .i64).d t14.Sites v65)]) hs (nil_of hw) (eI .i64) ([(ix (eI .i64).d t14.Sites v65)] : List Int) (by kernel_rfl) (by kernel_rfl) (by kernel_rfl) (by kernel_rfl) (by kernel_rfl) (by kernel_rfl) (by kernel_rfl)
   replace hbc := hwn.below
   replace hw := hw.call hwn
   clear hwn
   refine p_run hs (op := (Op.buildSlice 23 1 #[(0, (Operand.tmp 53))])) (ty := 23) (dst := some 54) (g := none) (by kernel_rfl) (by kernel_rfl) (by kernel_rfl) hx79 [5, 6, 7, 8, 9, 10, 48, 54] (L' := [(5, .bool t8), (6, .pointer (some (⟨g27, 0, none⟩ : Addr))), (7, .int .i64 y38), (8, .pointer (some (⟨g46, 0, none⟩ : Addr))), (9, .bool v64), (10, .int .i64 v65), (48, .slice Aa62 l61.length cc63), (54, .slice Aa76 ([(ix (eI .i64).d t14.Sites v65)] : List Int).length cc77)]) (by kernel_rfl) ?_
   clear hs; intro a hs
   refine c_done ⟨.inr (bn_of hbq hbc), ?_⟩
   clear hbc hbq
   refine d_seg ?_
   refine c_end ?_
   intro wq hbq
   replace hw := hw.behind hbq
   obtain ⟨hp81, H⟩ := ite_only H
   have hsrc86 : Src Tryd.prog (eI .i64).sz 23 (.slice Aa76 ([(ix (eI .i64).d t14.Sites v65)] : List Int).length cc77) ([(ix (eI .i64).d t14.Sites v65)] : List Int).length (([(ix (eI .i64).d t14.Sites v65)] : List Int).flatMap (eI .i64).enc) _ := (Src.of_rd (E := (eI .i64)) (e' := 3) (by kernel_rfl) (Rd.of_own (hw.up 0)))
   replace hw := hw.up 2
   obtain ⟨Aa82, cc83, wd84, hx85, hw⟩ := x_append (P := Tryd.prog) (t := 23) (tx := 23) (ty := 23) (x := (Operand.tmp 48)) (y := (Operand.tmp 54)) (z := .int .i64 0) (bytes := 8) (l2 := ([(ix (eI .i64).d t14.Sites v65)] : List Int)) hs hw (by kernel_rfl) (by kernel_rfl) (by kernel_rfl) (by kernel_rfl) (by kernel_rfl) hsrc86 (by omega) (by omega)
   refine p_run hs (op := (Op.call { callee := (Callee.builtin Builtin.append), args := #[(Operand.tmp 48), (Operand.tmp 54)], argTypes := #[23, 23] })) (ty := 23) (dst := some 55) (g := none) (by kernel_rfl) (by kernel_rfl) (by kernel_rfl) hx85 [5, 6, 7, 8, 9, 10, 55] (L' := [(5, .bool t8), (6, .pointer (some (⟨g27, 0, none⟩ : Addr))), (7, .int .i64 y38), (8, .pointer (some (⟨g46, 0, none⟩ : Addr))), (9, .bool v64), (10, .int .i64 v65), (55, .slice Aa82 (l61 ++ ([(ix (eI .i64).d t14.Sites v65)] : List Int)).length cc83)]) (by kernel_rfl) ?_
   clear hs; intro a hs
   refine c_done ⟨.inl (by kernel_rfl), ?_⟩
   clear hbq
   refine d_seg0 ?_
   refine c_pvs [9] [] [5, 6, 7, 8, 9, 10, 55, 56] hs (L' := [(5, .bool t8), (6, .pointer (some (⟨g27, 0, none⟩ : Addr))), (7, .int .i64 y38), (8, .pointer (some (⟨g46, 0, none⟩ : Addr))), (9, .bool v64), (10, .int .i64 v65), (55, .slice Aa82 (l61 ++ ([(ix (eI .i64).d t14.Sites v65)] : List Int)).length cc83), (56, .pointer (some (((⟨g46, 0, none⟩ : Addr) : Addr).add 1)))]) (by kernel_rfl) ?_ (by kernel_rfl)
   clear hs; intro a hs
   refine c_end ?_
   intro wq hbq
   replace hw := hw.behind hbq
   replace hw := hw.up 3
   obtain ⟨wd87, hx88, hw⟩ := x_bput (P := Tryd.prog) (ty := 0) (t := 23) (y := (Operand.tmp 56)) (z := (Operand.tmp 55)) (o := 1) (p := ((⟨g46, 0, none⟩ : Addr) : Addr).add 1) (v := .slice Aa82 (l61 ++ ([(ix (eI .i64).d t14.Sites v65)] : List Int)).length cc83) (vs := [.slice Aa82 (l61 ++ ([(ix (eI .i64).d t14.Sites v65)] : List Int)).length cc83]) (cs' := [.slice Aa41 (t14.Words.take (y38 : Int).toNat).length cc42, .slice Aa82 (l61 ++ ([(ix (eI .i64).d t14.Sites v65)] : List Int)).length cc83, .slice none ([] : List Sapi_Sym).length 0]) hs hw (by kernel_rfl) rfl (by kernel_rfl) rfl (by kernel_rfl) (by kernel_rfl) (by simp [Value.oneCell']) rfl
   refine p_unit hs (op := (Op.store 23 (Operand.tmp 56) (Operand.tmp 55))) (ty := 0) (dst := none) (g := none) (by kernel_rfl) (by kernel_rfl) (by kernel_rfl) hx88 [5, 6, 7, 8, 9, 10] (L' := [(5, .bool t8), (6, .pointer (some (⟨g27, 0, none⟩ : Addr))), (7, .int .i64 y38), (8, .pointer (some (⟨g46, 0, none⟩ : Addr))), (9, .bool v64), (10, .int .i64 v65)]) (by kernel_rfl) ?_
   clear hs; intro a hs
   refine c_done ⟨.inl (by kernel_rfl), ?_⟩
   clear hbq
   refine d_last ?_
   refine c_end ?_
   intro wq hbq
   replace hw := hw.behind hbq
   refine hK74 _ _ ?_
   refine q2_region (by kernel_rfl) (by kernel_rfl) ?_
   refine q_pvs 0 2 [5, 6, 7, 8, 10, 58] hs (L' := [(5, .bool t8), (6, .pointer (some (⟨g27, 0, none⟩ : Addr))), (7, .int .i64 y38), (8, .pointer (some (⟨g46, 0, none⟩ : Addr))), (10, .int .i64 v65), (58, .bool v64)]) (by kernel_rfl) ?_ rfl
   clear hs; intro a hs
   cases hb89 : v64
   ·replace H := ite_f H (ff hb89)
    rw [hb89] at hs
    refine q_pvs 2 17 [5, 6, 7, 8, 9, 10] hs (L' := [(5, .bool t8), (6, .pointer (some (⟨g27, 0, none⟩ : Addr))), (7, .int .i64 y38), (8, .pointer (some (⟨g46, 0, none⟩ : Addr))), (9, .bool false), (10, .int .i64 v65)]) (by kernel_rfl) ?_ rfl
    clear hs; intro a hs
    refine q_end (by kernel_rfl) ?_
    intro wq hbq
    replace hw := hw.behind hbq
    refine ib_norm ?_
    replace hw := hw.up 14
    replace hw := hw.up 14
    replace hw := hw.up 14
    replace hw := hw.up 14
    replace hw := hw.up 14
    replace hw := hw.up 14
    replace hw := hw.up 14
    replace hw := hw.up 14
    replace hw := hw.up 14
    replace hw := hw.up 14
    replace hw := hw.up 14
    replace hw := hw.up 11
    replace hw := hw.up 12
    replace hw := hw.up 14
    replace hw := hw.only 14
    exact hJ1 Aa82 cc83 (l61 ++ ([(ix (eI .i64).d t14.Sites v65)] : List Int)) false _ _ (hs.keep [5, 6, 7, 8, 9, 10] (by kernel_rfl)) hw H
   ·replace H := ite_t H hb89
    rw [hb89] at hs
    refine q_pvs 2 3 [5, 6, 7, 8, 10, 58, 59] hs (L' := [(5, .bool t8), (6, .pointer (some (⟨g27, 0, none⟩ : Addr))), (7, .int .i64 y38), (8, .pointer (some (⟨g46, 0, none⟩ : Addr))), (10, .int .i64 v65), (58, .bool true), (59, .pointer (some (((⟨g27, 0, none⟩ : Addr) : Addr).add 0)))]) (by kernel_rfl) ?_ rfl
    clear hs; intro a hs
    refine q_run hs (op := (Op.load 22 (Operand.tmp 59))) (ty := 22) (dst := some 60) (g := some (1, true)) (by kernel_rfl) (by kernel_rfl) (by kernel_rfl) (fun wx hbx => (x_bld (g := g27) (o := 0) (p := ((⟨g27, 0, none⟩ : Addr) : Addr).add 0) (v := .slice Aa16 t14.Words.length cc17) ((hw.behind hbx).up 7) (by kernel_rfl) rfl (by kernel_rfl) (by kernel_rfl))) [5, 6, 7, 8, 10, 58, 60] (L' := [(5, .bool t8), (6, .pointer (some (⟨g27, 0, none⟩ : Addr))), (7, .int .i64 y38), (8, .pointer (some (⟨g46, 0, none⟩ : Addr))), (10, .int .i64 v65), (58, .bool true), (60, .slice Aa16 t14.Words.length cc17)]) (by kernel_rfl) ?_
    clear hs; intro a hs
    refine q_pvs 4 5 [5, 6, 7, 8, 10, 58, 60, 61] hs (L' := [(5, .bool t8), (6, .pointer (some (⟨g27, 0, none⟩ : Addr))), (7, .int .i64 y38), (8, .pointer (some (⟨g46, 0, none⟩ : Addr))), (10, .int .i64 v65), (58, .bool true), (60, .slice Aa16 t14.Words.length cc17), (61, .pointer (some (((⟨g27, 0, none⟩ : Addr) : Addr).add 1)))]) (by kernel_rfl) ?_ rfl
    clear hs; intro a hs
    refine q_run hs (op := (Op.load 23 (Operand.tmp 61))) (ty := 23) (dst := some 62) (g := some (1, true)) (by kernel_rfl) (by kernel_rfl) (by kernel_rfl) (fun wx hbx => (x_bld (g := g27) (o := 1) (p := ((⟨g27, 0, none⟩ : Addr) : Addr).add 1) (v := .slice (some ad72) t14.Sites.length cc19) ((hw.behind hbx).up 7) (by kernel_rfl) rfl (by kernel_rfl) (by kernel_rfl))) [5, 6, 7, 8, 10, 58, 60, 62] (L' := [(5, .bool t8), (6, .pointer (some (⟨g27, 0, none⟩ : Addr))), (7, .int .i64 y38), (8, .pointer (some (⟨g46, 0, none⟩ : Addr))), (10, .int .i64 v65), (58, .bool true), (60, .slice Aa16 t14.Words.length cc17), (62, .slice (some ad72) t14.Sites.length cc19)]) (by kernel_rfl) ?_
    clear hs; intro a hs
    refine q_pvs 6 7 [5, 6, 7, 8, 10, 58, 60, 62, 63] hs (L' := [(5, .bool t8), (6, .pointer (some (⟨g27, 0, none⟩ : Addr))), (7, .int .i64 y38), (8, .pointer (some (⟨g46, 0, none⟩ : Addr))), (10, .int .i64 v65), (58, .bool true), (60, .slice Aa16 t14.Words.length cc17), (62, .slice (some ad72) t14.Sites.length cc19), (63, .int .i64 v65)]) (by kernel_rfl) ?_ rfl
    clear hs; intro a hs
    obtain ⟨hp90, H⟩ := ite_only H
    refine q_run hs (op := (Op.indexAddr 23 (Operand.tmp 62) (Operand.tmp 63))) (ty := 0) (dst := some 64) (g := some (1, true)) (by kernel_rfl) (by kernel_rfl) (by kernel_rfl) (fun wx hbx => (x_idx (T := 3) (sz := 1) (a := ad72) (n := t14.Sites.length) (cap := cc19) (k := .i64) (i := v65) (by kernel_rfl) (by kernel_rfl) (by kernel_rfl) (by kernel_rfl) hp90.1 hp90.2)) [5, 6, 7, 8, 10, 58, 60, 64] (L' := [(5, .bool t8), (6, .pointer (some (⟨g27, 0, none⟩ : Addr))), (7, .int .i64 y38), (8, .pointer (some (⟨g46, 0, none⟩ : Addr))), (10, .int .i64 v65), (58, .bool true), (60, .slice Aa16 t14.Words.length cc17), (64, .pointer (some (ad72.add (v65.toNat * 1))))]) (by kernel_rfl) ?_
    clear hs; intro a hs
    refine q_run hs (op := (Op.load 3 (Operand.tmp 64))) (ty := 3) (dst := some 65) (g := some (1, true)) (by kernel_rfl) (by kernel_rfl) (by kernel_rfl) (fun wx hbx => (x_ld (E := (eI .i64)) (off := 0) (p := ad72.add (v65.toNat * 1)) (v := .int .i64 (ix (eI .i64).d t14.Sites v65)) ((Rd.of_own (hw.up 12)).below hbx) hp90.1 hp90.2 (by kernel_rfl) rfl (by kernel_rfl) (by kernel_rfl))) [5, 6, 7, 8, 10, 58, 60, 65] (L' := [(5, .bool t8), (6, .pointer (some (⟨g27, 0, none⟩ : Addr))), (7, .int .i64 y38), (8, .pointer (some (⟨g46, 0, none⟩ : Addr))), (10, .int .i64 v65), (58, .bool true), (60, .slice Aa16 t14.Words.length cc17), (65, .int .i64 (ix (eI .i64).d t14.Sites v65))]) (by kernel_rfl) ?_
    clear hs; intro a hs
    obtain ⟨hp91, H⟩ := ite_only H
    obtain ⟨ad92, rfl⟩ := (Rd.of_own (hw.up 11)).some hp91.1 hp91.2
    refine q_run hs (op := (Op.indexAddr 22 (Operand.tmp 60) (Operand.tmp 65))) (ty := 0) (dst := some 66) (g := some (1, true)) (by kernel_rfl) (by kernel_rfl) (by kernel_rfl) (fun wx hbx => (x_idx (T := 37) (sz := 1) (a := ad92) (n := t14.Words.length) (cap := cc17) (k := .i64) (i := (ix (eI .i64).d t14.Sites v65)) (by kernel_rfl) (by kernel_rfl) (by kernel_rfl) (by kernel_rfl) hp91.1 hp91.2)) [5, 6, 7, 8, 10, 58, 66] (L' := [(5, .bool t8), (6, .pointer (some (⟨g27, 0, none⟩ : Addr))), (7, .int .i64 y38), (8, .pointer (some (⟨g46, 0, none⟩ : Addr))), (10, .int .i64 v65), (58, .bool true), (66, .pointer (some (ad92.add ((ix (eI .i64).d t14.Sites v65).toNat * 1))))]) (by kernel_rfl) ?_
    clear hs; intro a hs
    refine q_run hs (op := (Op.load 37 (Operand.tmp 66))) (ty := 37) (dst := some 67) (g := some (1, true)) (by kernel_rfl) (by kernel_rfl) (by kernel_rfl) (fun wx hbx => (x_ld (E := (eI .u32)) (off := 0) (p := ad92.add ((ix (eI .i64).d t14.Sites v65).toNat * 1)) (v := .int .u32 (ix (eI .u32).d t14.Words (ix (eI .i64).d t14.Sites v65))) ((Rd.of_own (hw.up 11)).below hbx) hp91.1 hp91.2 (by kernel_rfl) rfl (by kernel_rfl) (by kernel_rfl))) [5, 6, 7, 8, 10, 58, 67] (L' := [(5, .bool t8), (6, .pointer (some (⟨g27, 0, none⟩ : Addr))), (7, .int .i64 y38), (8, .pointer (some (⟨g46, 0, none⟩ : Addr))), (10, .int .i64 v65), (58, .bool true), (67, .int .u32 (ix (eI .u32).d t14.Words (ix (eI .i64).d t14.Sites v65)))]) (by kernel_rfl) ?_
    clear hs; intro a hs
    refine q_pvs 11 17 [5, 6, 7, 8, 9, 10] hs (L' := [(5, .bool t8), (6, .pointer (some (⟨g27, 0, none⟩ : Addr))), (7, .int .i64 y38), (8, .pointer (some (⟨g46, 0, none⟩ : Addr))), (9, .bool (decide ((w64 (ix (eI .u32).d t14.Words (ix (eI .i64).d t14.Sites v65))) ≤ (w64 (4 * y38))))), (10, .int .i64 v65)]) (by kernel_rfl) ?_ rfl
    clear hs; intro a hs
    refine q_end (by kernel_rfl) ?_
    intro wq hbq
    replace hw := hw.behind hbq
    refine ib_norm ?_
    replace hw := hw.up 14
    replace hw := hw.up 14
    replace hw := hw.up 14
    replace hw := hw.up 14
    replace hw := hw.up 14
    replace hw := hw.up 14
    replace hw := hw.up 14
    replace hw := hw.up 14
    replace hw := hw.up 14
    replace hw := hw.up 14
    replace hw := hw.up 14
    replace hw := hw.up 11
    replace hw := hw.up 12
    replace hw := hw.up 14
    replace hw := hw.only 14
    exact hJ1 Aa82 cc83 (l61 ++ ([(ix (eI .i64).d t14.Sites v65)] : List Int)) (decide ((w64 (ix (eI .u32).d t14.Words (ix (eI .i64).d t14.Sites v65))) ≤ (w64 (4 * y38)))) _ _ (hs.keep [5, 6, 7, 8, 9, 10] (by kernel_rfl)) hw H
  ·replace H := ite_f H (of_decide_eq_false hc)
   have hb93 := hc
   rw [hb93] at hs
   refine wp_skip ?_
   refine ib_norm ?_
   replace hw := hw.up 13
   replace hw := hw.up 13
   replace hw := hw.up 13
   replace hw := hw.up 13
   replace hw := hw.up 13
   replace hw := hw.up 13
   replace hw := hw.up 13
   replace hw := hw.up 13
   replace hw := hw.up 13
   replace hw := hw.up 13
   replace hw := hw.up 13
   replace hw := hw.up 13
   replace hw := hw.up 13
   replace hw := hw.up 13
   replace hw := hw.only 14
   exact hJ1 Aa62 cc63 l61 v64 _ _ (hs.keep [5, 6, 7, 8, 9, 10] (by kernel_rfl)) hw H
 ·replace H := ite_f H (of_decide_eq_false hc)
  have hb98 := hc
  rw [hb98] at hs
  refine wp_exit ?_
  refine th_exit ?_
  refine th_exit ?_
  refine in_block ?_
  replace hw := hw.up 13
  replace hw := hw.up 13
  replace hw := hw.up 13
  replace hw := hw.up 13
  replace hw := hw.up 13
  replace hw := hw.up 13
  replace hw := hw.up 13
  replace hw := hw.up 13
  replace hw := hw.up 13
  replace hw := hw.up 13
  replace hw := hw.up 13
  replace hw := hw.up 13
  replace hw := hw.up 13
  replace hw := hw.up 13
  replace hw := hw.only 14
  rw [← hr60 _ (Option.some.inj H).symm] at HX60
  exact hJ2 Aa62 cc63 l61 v64 _ _ (hs.keep [5, 6, 7, 8, 9] (by kernel_rfl)) hw HX60

end Go.Proofs.YtmfnololpfdfdaaDoor.T09
