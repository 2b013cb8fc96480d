/- YtmfnololpfdfdaaDoorT09zObjectSpoilt: Go functions told as plain ones, each with a proof that its call comes to what is told, part 1. Condition of each: that the plain function comes to a value. -/
import Derived.Test.YtmfnololpfdfdaaDoorT09
import Derived.Test.YtmfnololpfdfdaaDoorEN
import Derived.Test.YtmfnololpfdfdaaDoorProg
namespace Go.Proofs.YtmfnololpfdfdaaDoor.T09
open Go Go.RowKit Go.Proofs.YtmfnololpfdfdaaDoor.E
set_option linter.unusedVariables false
set_option linter.unusedSimpArgs false
structure Srivetlaw09_Parts where
  Words : List Int
  Bits : List Int
  Names : List ByteArray
def okSrivetlaw09_Parts (x : Srivetlaw09_Parts) : Prop := (∀ n ∈ x.Words, In .u32 n) ∧ x.Words.length * 4 ≤ 140737488351232 ∧ (∀ n ∈ x.Bits, In .u8 n) ∧ x.Bits.length * 1 ≤ 140737488351232 ∧ (∀ n ∈ x.Names, n.size ≤ 140737488351232) ∧ x.Names.length * 16 ≤ 140737488351232
def mSrivetlaw09_Parts (A : Option Addr) (x : Srivetlaw09_Parts) : Asn := fun L => ∃ g A1 c1 A2 c2 A3 c3, A = some ⟨g, 0, none⟩ ∧ Cov [box g 35 [.slice A1 x.Words.length c1, .slice A2 x.Bits.length c2, .slice A3 x.Names.length c3], own 37 (eI .u32) A1 c1 x.Words, own 5 (eI .u8) A2 c2 x.Bits, own 9 eS A3 c3 x.Names] L
theorem mSrivetlaw09_Parts.open {G : List Nat} {w0 w : World} {As : List Asn} {A : Option Addr} {x : Srivetlaw09_Parts} (h : St G w0 w (mSrivetlaw09_Parts A x :: As)) : ∃ g A1 c1 A2 c2 A3 c3, A = some ⟨g, 0, none⟩ ∧ St G w0 w ([box g 35 [.slice A1 x.Words.length c1, .slice A2 x.Bits.length c2, .slice A3 x.Names.length c3], own 37 (eI .u32) A1 c1 x.Words, own 5 (eI .u8) A2 c2 x.Bits, own 9 eS A3 c3 x.Names] ++ As) := by
  obtain ⟨L, ⟨L1, L2, rfl, ⟨g, A1, c1, A2, c2, A3, c3, rfl, hc⟩, hr⟩, hs⟩ := h
  exact ⟨g, A1, c1, A2, c2, A3, c3, rfl, _, Cov.join hr hc, hs⟩
theorem mSrivetlaw09_Parts.open1 {G : List Nat} {w0 w : World} {As : List Asn} {g : Nat} {x : Srivetlaw09_Parts} (h : St G w0 w (mSrivetlaw09_Parts (some ⟨g, 0, none⟩) x :: As)) : ∃ A1 c1 A2 c2 A3 c3, St G w0 w ([box g 35 [.slice A1 x.Words.length c1, .slice A2 x.Bits.length c2, .slice A3 x.Names.length c3], own 37 (eI .u32) A1 c1 x.Words, own 5 (eI .u8) A2 c2 x.Bits, own 9 eS A3 c3 x.Names] ++ As) := by
  obtain ⟨g', A1, c1, A2, c2, A3, c3, hg, h⟩ := mSrivetlaw09_Parts.open h
  cases hg
  exact ⟨A1, c1, A2, c2, A3, c3, h⟩
theorem mSrivetlaw09_Parts.close {G : List Nat} {w0 w : World} {As : List Asn} {g : Nat} {A1 : Option Addr} {c1 : Nat} {A2 : Option Addr} {c2 : Nat} {A3 : Option Addr} {c3 : Nat} {x : Srivetlaw09_Parts} (h : St G w0 w ([box g 35 [.slice A1 x.Words.length c1, .slice A2 x.Bits.length c2, .slice A3 x.Names.length c3], own 37 (eI .u32) A1 c1 x.Words, own 5 (eI .u8) A2 c2 x.Bits, own 9 eS A3 c3 x.Names] ++ As)) : St G w0 w (mSrivetlaw09_Parts (some ⟨g, 0, none⟩) x :: As) := by
  obtain ⟨L, hc, hs⟩ := h
  obtain ⟨L1, L2, rfl, h1, h2⟩ := Cov.split (Gs := [box g 35 [.slice A1 x.Words.length c1, .slice A2 x.Bits.length c2, .slice A3 x.Names.length c3], own 37 (eI .u32) A1 c1 x.Words, own 5 (eI .u8) A2 c2 x.Bits, own 9 eS A3 c3 x.Names]) hc
  exact ⟨_, ⟨L1, L2, rfl, ⟨g, A1, c1, A2, c2, A3, c3, rfl, h1⟩, h2⟩, hs⟩
/-! rivet/rivetlaw09.ObjectSpoilt: function 4 -/
noncomputable def rivetlaw09_ObjectSpoilt.j4 (v218 : Bool) : Option Bool := some v218
noncomputable def rivetlaw09_ObjectSpoilt.j3 (t14 : Sapi_Obj) (l196 : List Int) (l199 : List Sapi_Sym) (l204 : List Int) (v205 : Int) : Option Bool := ((object_May (⟨l196, l204, l199⟩ : Sapi_Obj)).bind fun t208 => ((if t208 = v205 then ((object_Same t14 (⟨l196, l204, l199⟩ : Sapi_Obj)).bind fun t214 => (rivetlaw09_ObjectSpoilt.j4 (t214 == (v205 == 0)))) else rivetlaw09_ObjectSpoilt.j4 false)))
noncomputable def rivetlaw09_ObjectSpoilt.j2 (t38 : Sapi_Obj) (a1 : Int) (t14 : Sapi_Obj) (a2 : Int) : Option Bool := (nm (t38.Words.length : Int) fun y79 => (if (a1.tmod 7) = 0 then (if t38.Sites.length + ([y79] : List Int).length ≤ 17592186044416 then rivetlaw09_ObjectSpoilt.j3 t14 t38.Words t38.Syms (t38.Sites ++ ([y79] : List Int)) 7 else none) else (if (a1.tmod 7) = 1 then (if (t38.Sites.length : Int) > 0 then (if (t38.Sites.length : Int) ≠ 0 then (if 0 ≤ ((w64 a2).tmod (t38.Sites.length : Int)) ∧ ((w64 a2).tmod (t38.Sites.length : Int)) < (t38.Sites.length : Int) then (if 0 ≤ (ix (eI .i64).d t38.Sites ((w64 a2).tmod (t38.Sites.length : Int))) ∧ (ix (eI .i64).d t38.Sites ((w64 a2).tmod (t38.Sites.length : Int))) < (t38.Words.length : Int) then rivetlaw09_ObjectSpoilt.j3 t14 (t38.Words.set ((ix (eI .i64).d t38.Sites ((w64 a2).tmod (t38.Sites.length : Int))) : Int).toNat (wu32 (w64 ((w64 (4 * y79)) + 1)))) t38.Syms t38.Sites 8 else none) else none) else none) else rivetlaw09_ObjectSpoilt.j3 t14 t38.Words t38.Syms t38.Sites 0) else (if (a1.tmod 7) = 2 then (if (t38.Sites.length : Int) > 0 then (if 0 ≤ (0 : Int) ∧ (0 : Int) < (t38.Sites.length : Int) then (if ([(ix (eI .i64).d t38.Sites (0 : Int))] : List Int).length + t38.Sites.length ≤ 17592186044416 then rivetlaw09_ObjectSpoilt.j3 t14 t38.Words t38.Syms (([(ix (eI .i64).d t38.Sites (0 : Int))] : List Int) ++ t38.Sites) 7 else none) else none) else rivetlaw09_ObjectSpoilt.j3 t14 t38.Words t38.Syms t38.Sites 0) else (if (a1.tmod 7) = 3 then (if (t38.Syms.length : Int) > 0 then (if 0 ≤ (w64 ((t38.Syms.length : Int) - 1)) ∧ (w64 ((t38.Syms.length : Int) - 1)) < (t38.Syms.length : Int) then (if t38.Syms.length + ([(ix eSapi_Sym.d t38.Syms (w64 ((t38.Syms.length : Int) - 1)))] : List Sapi_Sym).length ≤ 5864062014805 then rivetlaw09_ObjectSpoilt.j3 t14 t38.Words (t38.Syms ++ ([(ix eSapi_Sym.d t38.Syms (w64 ((t38.Syms.length : Int) - 1)))] : List Sapi_Sym)) t38.Sites 9 else none) else none) else rivetlaw09_ObjectSpoilt.j3 t14 t38.Words t38.Syms t38.Sites 0) else (if (a1.tmod 7) = 4 then (if t38.Syms.length + ([(⟨(⟨#[122, 122, 95]⟩ : ByteArray), w64 ((w64 (4 * y79)) + 4)⟩ : Sapi_Sym)] : List Sapi_Sym).length ≤ 5864062014805 then rivetlaw09_ObjectSpoilt.j3 t14 t38.Words (t38.Syms ++ ([(⟨(⟨#[122, 122, 95]⟩ : ByteArray), w64 ((w64 (4 * y79)) + 4)⟩ : Sapi_Sym)] : List Sapi_Sym)) t38.Sites 8 else none) else (if (a1.tmod 7) = 5 then (if (t38.Syms.length : Int) > 0 then (if (t38.Syms.length : Int) ≠ 0 then (if 0 ≤ ((w64 a2).tmod (t38.Syms.length : Int)) ∧ ((w64 a2).tmod (t38.Syms.length : Int)) < (t38.Syms.length : Int) then rivetlaw09_ObjectSpoilt.j3 t14 t38.Words (t38.Syms.set (((w64 a2).tmod (t38.Syms.length : Int)) : Int).toNat ({ (ix eSapi_Sym.d t38.Syms ((w64 a2).tmod (t38.Syms.length : Int))) with At := 2 } : Sapi_Sym)) t38.Sites 8 else none) else none) else rivetlaw09_ObjectSpoilt.j3 t14 t38.Words t38.Syms t38.Sites 0) else (if 0 ≤ (w64 (1025 - y79)) ∧ t38.Words.length + (w64 (1025 - y79)).toNat ≤ 35184372088832 then rivetlaw09_ObjectSpoilt.j3 t14 (t38.Words ++ List.replicate (w64 (1025 - y79)).toNat (eI .u32).d) t38.Syms t38.Sites 2 else none))))))))
noncomputable def rivetlaw09_ObjectSpoilt.j1 (t38 : Sapi_Obj) (a1 : Int) (t14 : Sapi_Obj) (a2 : Int) (v74 : Bool) : Option Bool := (if v74 = true then some false else rivetlaw09_ObjectSpoilt.j2 t38 a1 t14 a2)
noncomputable def rivetlaw09_ObjectSpoilt (a0 : Srivetlaw09_Parts) (a1 : Int) (a2 : Int) : Option Bool := ((rivetlaw09_shown).bind fun t8 => (((rivetref09_Fit a0.Words a0.Bits a0.Names).bind fun t14 => (((rivetref09_Fit a0.Words a0.Bits a0.Names).bind fun t38 => ((if t8 = true then ((object_May t14).bind fun t64 => ((if t64 = 0 then ((object_Same t14 t38).bind fun t70 => (rivetlaw09_ObjectSpoilt.j1 t38 a1 t14 a2 (!t70))) else rivetlaw09_ObjectSpoilt.j1 t38 a1 t14 a2 true))) else rivetlaw09_ObjectSpoilt.j1 t38 a1 t14 a2 true)))))))
set_option maxRecDepth 100000 in
set_option maxHeartbeats 4000000 in
theorem rivetlaw09_ObjectSpoilt.calls (a0 : Srivetlaw09_Parts) (A0_1 : Option Addr) (c0_1 : Nat) (A0_2 : Option Addr) (c0_2 : Nat) (A0_3 : Option Addr) (c0_3 : Nat) (a1 : Int) (a2 : Int) (r : Bool) (w0 : World) (hr0_1 : Rd w0 (eI .u32) A0_1 c0_1 a0.Words) (hr0_2 : Rd w0 (eI .u8) A0_2 c0_2 a0.Bits) (hr0_3 : Rd w0 eS A0_3 c0_3 a0.Names) (H : rivetlaw09_ObjectSpoilt a0 a1 a2 = some r) :
    Calls Tryd.prog 4 #[.agg #[.slice A0_1 a0.Words.length c0_1, .slice A0_2 a0.Bits.length c0_2, .slice A0_3 a0.Names.length c0_3], .int .u8 a1, .int .u8 a2] w0 fun e w' => e = .returned (.bool r) ∧ St [] w0 w' [] := by
 have hw : St [] w0 w0 [] := St.nil w0
 unfold rivetlaw09_ObjectSpoilt at H
 refine go_fn Tryd.func4 rfl 155 Tryd.ntmps4 [(0, .agg #[.slice A0_1 a0.Words.length c0_1, .slice A0_2 a0.Bits.length c0_2, .slice A0_3 a0.Names.length c0_3]), (1, .int .u8 a1), (2, .int .u8 a2)] (by kernel_rfl) rfl ?_
 intro a hs
 refine go_seq_k fun K1 hK1 => ?_
 refine go_region ?_
 obtain ⟨g2, wd3, hx4, hw⟩ := x_boxc (P := Tryd.prog) (elem := 35) (v := (Operand.tmp 0)) (ty := 0) (cs := [.slice A0_1 a0.Words.length c0_1, .slice A0_2 a0.Bits.length c0_2, .slice A0_3 a0.Names.length c0_3]) hs hw (by kernel_rfl)
 refine go_run hs (op := (Op.box 35 (Operand.tmp 0))) (ty := 0) (dst := some 3) (g := none) (by kernel_rfl) (by kernel_rfl) (by kernel_rfl) hx4 [1, 2, 3] (L' := [(1, .int .u8 a1), (2, .int .u8 a2), (3, .pointer (some (⟨g2, 0, none⟩ : Addr)))]) (by kernel_rfl) ?_
 clear hs; intro a hs
 refine go_pvs 1 2 [1, 2, 3] hs (L' := [(1, .int .u8 a1), (2, .int .u8 a2), (3, .pointer (some (⟨g2, 0, none⟩ : Addr)))]) (by kernel_rfl) ?_ rfl
 clear hs; intro a hs
 refine go_end (by kernel_rfl) ?_
 refine hK1 _ _ ?_
 refine go_seq_k fun K6 hK6 => ?_
 refine go_region ?_
 obtain ⟨t8, hx9, H⟩ := bind_some H
 refine go_call hs (op := (Op.call { callee := (Callee.value (Operand.func 13)), args := #[], argTypes := #[] })) (ty := 4) (dst := some 12) (g := none) (by kernel_rfl) (by kernel_rfl) (by kernel_rfl) (f := 13) (args := #[]) (by kernel_rfl) (rivetlaw09_shown.calls t8 _ hx9) ?_
 rintro e wd10 ⟨rfl, hw11⟩
 refine ⟨_, rfl, ?_⟩
 replace hw := hw.call hw11
 intro a hs1
 replace hs : Slots a 155 [(1, .int .u8 a1), (2, .int .u8 a2), (3, .pointer (some (⟨g2, 0, none⟩ : Addr))), (12, .bool t8)] := hs1.keep [1, 2, 3, 12] (by kernel_rfl)
 clear hs1
 refine go_pvs 1 2 [1, 2, 3, 7] hs (L' := [(1, .int .u8 a1), (2, .int .u8 a2), (3, .pointer (some (⟨g2, 0, none⟩ : Addr))), (7, .bool t8)]) (by kernel_rfl) ?_ rfl
 clear hs; intro a hs
 refine go_end (by kernel_rfl) ?_
 refine hK6 _ _ ?_
 refine go_seq_k fun K12 hK12 => ?_
 refine go_region ?_
 refine go_pvs 0 1 [1, 2, 3, 7, 13] hs (L' := [(1, .int .u8 a1), (2, .int .u8 a2), (3, .pointer (some (⟨g2, 0, none⟩ : Addr))), (7, .bool t8), (13, .pointer (some (((⟨g2, 0, none⟩ : Addr) : Addr).add 0)))]) (by kernel_rfl) ?_ rfl
 clear hs; intro a hs
 refine go_run hs (op := (Op.load 22 (Operand.tmp 13))) (ty := 22) (dst := some 14) (g := none) (by kernel_rfl) (by kernel_rfl) (by kernel_rfl) (x_bld (g := g2) (o := 0) (p := ((⟨g2, 0, none⟩ : Addr) : Addr).add 0) (v := .slice A0_1 a0.Words.length c0_1) (hw.up 0) (by kernel_rfl) rfl (by kernel_rfl) (by kernel_rfl)) [1, 2, 3, 7, 14] (L' := [(1, .int .u8 a1), (2, .int .u8 a2), (3, .pointer (some (⟨g2, 0, none⟩ : Addr))), (7, .bool t8), (14, .slice A0_1 a0.Words.length c0_1)]) (by kernel_rfl) ?_
 clear hs; intro a hs
 refine go_pvs 2 3 [1, 2, 3, 7, 14, 15] hs (L' := [(1, .int .u8 a1), (2, .int .u8 a2), (3, .pointer (some (⟨g2, 0, none⟩ : Addr))), (7, .bool t8), (14, .slice A0_1 a0.Words.length c0_1), (15, .pointer (some (((⟨g2, 0, none⟩ : Addr) : Addr).add 1)))]) (by kernel_rfl) ?_ rfl
 clear hs; intro a hs
 refine go_run hs (op := (Op.load 32 (Operand.tmp 15))) (ty := 32) (dst := some 16) (g := none) (by kernel_rfl) (by kernel_rfl) (by kernel_rfl) (x_bld (g := g2) (o := 1) (p := ((⟨g2, 0, none⟩ : Addr) : Addr).add 1) (v := .slice A0_2 a0.Bits.length c0_2) (hw.up 0) (by kernel_rfl) rfl (by kernel_rfl) (by kernel_rfl)) [1, 2, 3, 7, 14, 16] (L' := [(1, .int .u8 a1), (2, .int .u8 a2), (3, .pointer (some (⟨g2, 0, none⟩ : Addr))), (7, .bool t8), (14, .slice A0_1 a0.Words.length c0_1), (16, .slice A0_2 a0.Bits.length c0_2)]) (by kernel_rfl) ?_
 clear hs; intro a hs
 refine go_pvs 4 5 [1, 2, 3, 7, 14, 16, 17] hs (L' := [(1, .int .u8 a1), (2, .int .u8 a2), (3, .pointer (some (⟨g2, 0, none⟩ : Addr))), (7, .bool t8), (14, .slice A0_1 a0.Words.length c0_1), (16, .slice A0_2 a0.Bits.length c0_2), (17, .pointer (some (((⟨g2, 0, none⟩ : Addr) : Addr).add 2)))]) (by kernel_rfl) ?_ rfl
 clear hs; intro a hs
 refine go_run hs (op := (Op.load 33 (Operand.tmp 17))) (ty := 33) (dst := some 18) (g := none) (by kernel_rfl) (by kernel_rfl) (by kernel_rfl) (x_bld (g := g2) (o := 2) (p := ((⟨g2, 0, none⟩ : Addr) : Addr).add 2) (v := .slice A0_3 a0.Names.length c0_3) (hw.up 0) (by kernel_rfl) rfl (by kernel_rfl) (by kernel_rfl)) [1, 2, 3, 7, 14, 16, 18] (L' := [(1, .int .u8 a1), (2, .int .u8 a2), (3, .pointer (some (⟨g2, 0, none⟩ : Addr))), (7, .bool t8), (14, .slice A0_1 a0.Words.length c0_1), (16, .slice A0_2 a0.Bits.length c0_2), (18, .slice A0_3 a0.Names.length c0_3)]) (by kernel_rfl) ?_
 clear hs; intro a hs
 obtain ⟨t14, hx15, H⟩ := bind_some H
 refine go_call hs (op := (Op.call { callee := (Callee.value (Operand.func 19)), args := #[(Operand.tmp 14), (Operand.tmp 16), (Operand.tmp 18)], argTypes := #[22, 32, 33] })) (ty := 26) (dst := some 19) (g := none) (by kernel_rfl) (by kernel_rfl) (by kernel_rfl) (f := 19) (args := #[.slice A0_1 a0.Words.length c0_1, .slice A0_2 a0.Bits.length c0_2, .slice A0_3 a0.Names.length c0_3]) (by kernel_rfl) (rivetref09_Fit.calls A0_1 c0_1 a0.Words A0_2 c0_2 a0.Bits A0_3 c0_3 a0.Names t14 _ (hr0_1.old hw) (hr0_2.old hw) (hr0_3.old hw) hx15) ?_
 rintro e wd22 ⟨Aa16, cc17, Aa18, cc19, Aa20, cc21, rfl, hw23⟩
 refine ⟨_, rfl, ?_⟩
 replace hw := hw.call hw23
 intro a hs1
 replace hs : Slots a 155 [(1, .int .u8 a1), (2, .int .u8 a2), (3, .pointer (some (⟨g2, 0, none⟩ : Addr))), (7, .bool t8), (19, .agg #[.slice Aa16 t14.Words.length cc17, .slice Aa18 t14.Sites.length cc19, .slice Aa20 t14.Syms.length cc21])] := hs1.keep [1, 2, 3, 7, 19] (by kernel_rfl)
 clear hs1
 obtain ⟨g27, wd28, hx29, hw⟩ := x_allocc (P := Tryd.prog) (elem := 26) (ty := 0) (z := .agg #[.slice none 0 0, .slice none 0 0, .slice none 0 0]) (cs := [.slice none 0 0, .slice none 0 0, .slice none 0 0]) hs hw (by kernel_rfl) (by kernel_rfl)
 refine go_run hs (op := (Op.alloc 26)) (ty := 0) (dst := some 8) (g := none) (by kernel_rfl) (by kernel_rfl) (by kernel_rfl) hx29 [1, 2, 3, 7, 8, 19] (L' := [(1, .int .u8 a1), (2, .int .u8 a2), (3, .pointer (some (⟨g2, 0, none⟩ : Addr))), (7, .bool t8), (8, .pointer (some (⟨g27, 0, none⟩ : Addr))), (19, .agg #[.slice Aa16 t14.Words.length cc17, .slice Aa18 t14.Sites.length cc19, .slice Aa20 t14.Syms.length cc21])]) (by kernel_rfl) ?_
 clear hs; intro a hs
 replace hw := St.own_nil hw 37 (eI .u32)
 replace hw := St.own_nil hw 3 (eI .i64)
 replace hw := St.own_nil hw 39 eSapi_Sym
 replace hw : St [] w0 wd28 [own 39 eSapi_Sym none 0 ([] : List Sapi_Sym), own 3 (eI .i64) none 0 ([] : List Int), own 37 (eI .u32) none 0 ([] : List Int), box g27 26 [.slice none ([] : List Int).length 0, .slice none ([] : List Int).length 0, .slice none ([] : List Sapi_Sym).length 0], own 37 (eI .u32) Aa16 cc17 t14.Words, own 3 (eI .i64) Aa18 cc19 t14.Sites, own 39 eSapi_Sym Aa20 cc21 t14.Syms, box g2 35 [.slice A0_1 a0.Words.length c0_1, .slice A0_2 a0.Bits.length c0_2, .slice A0_3 a0.Names.length c0_3]] := hw
 replace hw := hw.up 3
 obtain ⟨wd34, hx35, hw⟩ := x_bput (P := Tryd.prog) (ty := 0) (t := 26) (y := (Operand.tmp 8)) (z := (Operand.tmp 19)) (o := 0) (p := (⟨g27, 0, none⟩ : Addr)) (v := .agg #[.slice Aa16 t14.Words.length cc17, .slice Aa18 t14.Sites.length cc19, .slice Aa20 t14.Syms.length cc21]) (vs := [.slice Aa16 t14.Words.length cc17, .slice Aa18 t14.Sites.length cc19, .slice Aa20 t14.Syms.length cc21]) (cs' := [.slice Aa16 t14.Words.length cc17, .slice Aa18 t14.Sites.length cc19, .slice Aa20 t14.Syms.length cc21]) hs hw (by kernel_rfl) rfl (by kernel_rfl) rfl (by kernel_rfl) (by kernel_rfl) (by simp [Value.oneCell']) rfl
 refine go_unit hs (op := (Op.store 26 (Operand.tmp 8) (Operand.tmp 19))) (ty := 0) (dst := none) (g := none) (by kernel_rfl) (by kernel_rfl) (by kernel_rfl) hx35 [1, 2, 3, 7, 8] (L' := [(1, .int .u8 a1), (2, .int .u8 a2), (3, .pointer (some (⟨g2, 0, none⟩ : Addr))), (7, .bool t8), (8, .pointer (some (⟨g27, 0, none⟩ : Addr)))]) (by kernel_rfl) ?_
 clear hs; intro a hs
 refine go_end (by kernel_rfl) ?_
 refine hK12 _ _ ?_
 refine go_seq_k fun K36 hK36 => ?_
 refine go_region ?_
 refine go_pvs 0 1 [1, 2, 3, 7, 8, 20] hs (L' := [(1, .int .u8 a1), (2, .int .u8 a2), (3, .pointer (some (⟨g2, 0, none⟩ : Addr))), (7, .bool t8), (8, .pointer (some (⟨g27, 0, none⟩ : Addr))), (20, .pointer (some (((⟨g2, 0, none⟩ : Addr) : Addr).add 0)))]) (by kernel_rfl) ?_ rfl
 clear hs; intro a hs
 refine go_run hs (op := (Op.load 22 (Operand.tmp 20))) (ty := 22) (dst := some 21) (g := none) (by kernel_rfl) (by kernel_rfl) (by kernel_rfl) (x_bld (g := g2) (o := 0) (p := ((⟨g2, 0, none⟩ : Addr) : Addr).add 0) (v := .slice A0_1 a0.Words.length c0_1) (hw.up 7) (by kernel_rfl) rfl (by kernel_rfl) (by kernel_rfl)) [1, 2, 3, 7, 8, 21] (L' := [(1, .int .u8 a1), (2, .int .u8 a2), (3, .pointer (some (⟨g2, 0, none⟩ : Addr))), (7, .bool t8), (8, .pointer (some (⟨g27, 0, none⟩ : Addr))), (21, .slice A0_1 a0.Words.length c0_1)]) (by kernel_rfl) ?_
 clear hs; intro a hs
 refine go_pvs 2 3 [1, 2, 3, 7, 8, 21, 22] hs (L' := [(1, .int .u8 a1), (2, .int .u8 a2), (3, .pointer (some (⟨g2, 0, none⟩ : Addr))), (7, .bool t8), (8, .pointer (some (⟨g27, 0, none⟩ : Addr))), (21, .slice A0_1 a0.Words.length c0_1), (22, .pointer (some (((⟨g2, 0, none⟩ : Addr) : Addr).add 1)))]) (by kernel_rfl) ?_ rfl
 clear hs; intro a hs
 refine go_run hs (op := (Op.load 32 (Operand.tmp 22))) (ty := 32) (dst := some 23) (g := none) (by kernel_rfl) (by kernel_rfl) (by kernel_rfl) (x_bld (g := g2) (o := 1) (p := ((⟨g2, 0, none⟩ : Addr) : Addr).add 1) (v := .slice A0_2 a0.Bits.length c0_2) (hw.up 7) (by kernel_rfl) rfl (by kernel_rfl) (by kernel_rfl)) [1, 2, 3, 7, 8, 21, 23] (L' := [(1, .int .u8 a1), (2, .int .u8 a2), (3, .pointer (some (⟨g2, 0, none⟩ : Addr))), (7, .bool t8), (8, .pointer (some (⟨g27, 0, none⟩ : Addr))), (21, .slice A0_1 a0.Words.length c0_1), (23, .slice A0_2 a0.Bits.length c0_2)]) (by kernel_rfl) ?_
 clear hs; intro a hs
 refine go_pvs 4 5 [1, 2, 7, 8, 21, 23, 24] hs (L' := [(1, .int .u8 a1), (2, .int .u8 a2), (7, .bool t8), (8, .pointer (some (⟨g27, 0, none⟩ : Addr))), (21, .slice A0_1 a0.Words.length c0_1), (23, .slice A0_2 a0.Bits.length c0_2), (24, .pointer (some (((⟨g2, 0, none⟩ : Addr) : Addr).add 2)))]) (by kernel_rfl) ?_ rfl
 clear hs; intro a hs
 refine go_run hs (op := (Op.load 33 (Operand.tmp 24))) (ty := 33) (dst := some 25) (g := none) (by kernel_rfl) (by kernel_rfl) (by kernel_rfl) (x_bld (g := g2) (o := 2) (p := ((⟨g2, 0, none⟩ : Addr) : Addr).add 2) (v := .slice A0_3 a0.Names.length c0_3) (hw.up 7) (by kernel_rfl) rfl (by kernel_rfl) (by kernel_rfl)) [1, 2, 7, 8, 21, 23, 25] (L' := [(1, .int .u8 a1), (2, .int .u8 a2), (7, .bool t8), (8, .pointer (some (⟨g27, 0, none⟩ : Addr))), (21, .slice A0_1 a0.Words.length c0_1), (23, .slice A0_2 a0.Bits.length c0_2), (25, .slice A0_3 a0.Names.length c0_3)]) (by kernel_rfl) ?_
 clear hs; intro a hs
 obtain ⟨t38, hx39, H⟩ := bind_some H
 refine go_call hs (op := (Op.call { callee := (Callee.value (Operand.func 19)), args := #[(Operand.tmp 21), (Operand.tmp 23), (Operand.tmp 25)], argTypes := #[22, 32, 33] })) (ty := 26) (dst := some 26) (g := none) (by kernel_rfl) (by kernel_rfl) (by kernel_rfl) (f := 19) (args := #[.slice A0_1 a0.Words.length c0_1, .slice A0_2 a0.Bits.length c0_2, .slice A0_3 a0.Names.length c0_3]) (by kernel_rfl) (rivetref09_Fit.calls A0_1 c0_1 a0.Words A0_2 c0_2 a0.Bits A0_3 c0_3 a0.Names t38 _ (hr0_1.old hw) (hr0_2.old hw) (hr0_3.old hw) hx39) ?_
 rintro e wd46 ⟨Aa40, cc41, Aa42, cc43, Aa44, cc45, rfl, hw47⟩
 refine ⟨_, rfl, ?_⟩
 replace hw := hw.call hw47
 intro a hs1
 replace hs : Slots a 155 [(1, .int .u8 a1), (2, .int .u8 a2), (7, .bool t8), (8, .pointer (some (⟨g27, 0, none⟩ : Addr))), (26, .agg #[.slice Aa40 t38.Words.length cc41, .slice Aa42 t38.Sites.length cc43, .slice Aa44 t38.Syms.length cc45])] := hs1.keep [1, 2, 7, 8, 26] (by kernel_rfl)
 clear hs1
 obtain ⟨g51, wd52, hx53, hw⟩ := x_allocc (P := Tryd.prog) (elem := 26) (ty := 0) (z := .agg #[.slice none 0 0, .slice none 0 0, .slice none 0 0]) (cs := [.slice none 0 0, .slice none 0 0, .slice none 0 0]) hs hw (by kernel_rfl) (by kernel_rfl)
 refine go_run hs (op := (Op.alloc 26)) (ty := 0) (dst := some 9) (g := none) (by kernel_rfl) (by kernel_rfl) (by kernel_rfl) hx53 [1, 2, 7, 8, 9, 26] (L' := [(1, .int .u8 a1), (2, .int .u8 a2), (7, .bool t8), (8, .pointer (some (⟨g27, 0, none⟩ : Addr))), (9, .pointer (some (⟨g51, 0, none⟩ : Addr))), (26, .agg #[.slice Aa40 t38.Words.length cc41, .slice Aa42 t38.Sites.length cc43, .slice Aa44 t38.Syms.length cc45])]) (by kernel_rfl) ?_
 clear hs; intro a hs
 replace hw := St.own_nil hw 37 (eI .u32)
 replace hw := St.own_nil hw 3 (eI .i64)
 replace hw := St.own_nil hw 39 eSapi_Sym
 replace hw : St [] w0 wd52 [own 39 eSapi_Sym none 0 ([] : List Sapi_Sym), own 3 (eI .i64) none 0 ([] : List Int), own 37 (eI .u32) none 0 ([] : List Int), box g51 26 [.slice none ([] : List Int).length 0, .slice none ([] : List Int).length 0, .slice none ([] : List Sapi_Sym).length 0], own 37 (eI .u32) Aa40 cc41 t38.Words, own 3 (eI .i64) Aa42 cc43 t38.Sites, own 39 eSapi_Sym Aa44 cc45 t38.Syms, box g27 26 [.slice Aa16 t14.Words.length cc17, .slice Aa18 t14.Sites.length cc19, .slice Aa20 t14.Syms.length cc21], own 39 eSapi_Sym none 0 ([] : List Sapi_Sym), own 3 (eI .i64) none 0 ([] : List Int), own 37 (eI .u32) none 0 ([] : List Int), own 37 (eI .u32) Aa16 cc17 t14.Words, own 3 (eI .i64) Aa18 cc19 t14.Sites, own 39 eSapi_Sym Aa20 cc21 t14.Syms, box g2 35 [.slice A0_1 a0.Words.length c0_1, .slice A0_2 a0.Bits.length c0_2, .slice A0_3 a0.Names.length c0_3]] := hw
 replace hw := hw.up 3
 obtain ⟨wd58, hx59, hw⟩ := x_bput (P := Tryd.prog) (ty := 0) (t := 26) (y := (Operand.tmp 9)) (z := (Operand.tmp 26)) (o := 0) (p := (⟨g51, 0, none⟩ : Addr)) (v := .agg #[.slice Aa40 t38.Words.length cc41, .slice Aa42 t38.Sites.length cc43, .slice Aa44 t38.Syms.length cc45]) (vs := [.slice Aa40 t38.Words.length cc41, .slice Aa42 t38.Sites.length cc43, .slice Aa44 t38.Syms.length cc45]) (cs' := [.slice Aa40 t38.Words.length cc41, .slice Aa42 t38.Sites.length cc43, .slice Aa44 t38.Syms.length cc45]) hs hw (by kernel_rfl) rfl (by kernel_rfl) rfl (by kernel_rfl) (by kernel_rfl) (by simp [Value.oneCell']) rfl
 refine go_unit hs (op := (Op.store 26 (Operand.tmp 9) (Operand.tmp 26))) (ty := 0) (dst := none) (g := none) (by kernel_rfl) (by kernel_rfl) (by kernel_rfl) hx59 [1, 2, 7, 8, 9] (L' := [(1, .int .u8 a1), (2, .int .u8 a2), (7, .bool t8), (8, .pointer (some (⟨g27, 0, none⟩ : Addr))), (9, .pointer (some (⟨g51, 0, none⟩ : Addr)))]) (by kernel_rfl) ?_
 clear hs; intro a hs
 refine go_end (by kernel_rfl) ?_
 refine hK36 _ _ ?_
 refine go_seq_k fun K60 hK60 => ?_
 have hJ2 : ∀ (a : Act) (w : World), Slots a 155 [(1, .int .u8 a1), (2, .int .u8 a2), (8, .pointer (some (⟨g27, 0, none⟩ : Addr))), (9, .pointer (some (⟨g51, 0, none⟩ : Addr)))] → St [] w0 w [box g51 26 [.slice Aa40 t38.Words.length cc41, .slice Aa42 t38.Sites.length cc43, .slice Aa44 t38.Syms.length cc45], own 39 eSapi_Sym none 0 ([] : List Sapi_Sym), own 3 (eI .i64) none 0 ([] : List Int), own 37 (eI .u32) none 0 ([] : List Int), own 37 (eI .u32) Aa40 cc41 t38.Words, own 3 (eI .i64) Aa42 cc43 t38.Sites, own 39 eSapi_Sym Aa44 cc45 t38.Syms, box g27 26 [.slice Aa16 t14.Words.length cc17, .slice Aa18 t14.Sites.length cc19, .slice Aa20 t14.Syms.length cc21], own 39 eSapi_Sym none 0 ([] : List Sapi_Sym), own 3 (eI .i64) none 0 ([] : List Int), own 37 (eI .u32) none 0 ([] : List Int), own 37 (eI .u32) Aa16 cc17 t14.Words, own 3 (eI .i64) Aa18 cc19 t14.Sites, own 39 eSapi_Sym Aa20 cc21 t14.Syms, box g2 35 [.slice A0_1 a0.Words.length c0_1, .slice A0_2 a0.Bits.length c0_2, .slice A0_3 a0.Names.length c0_3]] → rivetlaw09_ObjectSpoilt.j2 t38 a1 t14 a2 = some r → K60 a w := by
  intro a w hs hw H
  unfold rivetlaw09_ObjectSpoilt.j2 at H
  refine hK60 _ _ ?_
  refine go_seq_k fun K78 hK78 => ?_
  refine go_region ?_
  refine go_pvs 0 1 [1, 2, 8, 9, 40] hs (L' := [(1, .int .u8 a1), (2, .int .u8 a2), (8, .pointer (some (⟨g27, 0, none⟩ : Addr))), (9, .pointer (some (⟨g51, 0, none⟩ : Addr))), (40, .pointer (some (((⟨g51, 0, none⟩ : Addr) : Addr).add 0)))]) (by kernel_rfl) ?_ rfl
  clear hs; intro a hs
  refine go_run hs (op := (Op.load 22 (Operand.tmp 40))) (ty := 22) (dst := some 41) (g := none) (by kernel_rfl) (by kernel_rfl) (by kernel_rfl) (x_bld (g := g51) (o := 0) (p := ((⟨g51, 0, none⟩ : Addr) : Addr).add 0) (v := .slice Aa40 t38.Words.length cc41) (hw.up 0) (by kernel_rfl) rfl (by kernel_rfl) (by kernel_rfl)) [1, 2, 8, 9, 41] (L' := [(1, .int .u8 a1), (2, .int .u8 a2), (8, .pointer (some (⟨g27, 0, none⟩ : Addr))), (9, .pointer (some (⟨g51, 0, none⟩ : Addr))), (41, .slice Aa40 t38.Words.length cc41)]) (by kernel_rfl) ?_
  clear hs; intro a hs
  refine go_pvs 2 4 [1, 2, 8, 9, 10] hs (L' := [(1, .int .u8 a1), (2, .int .u8 a2), (8, .pointer (some (⟨g27, 0, none⟩ : Addr))), (9, .pointer (some (⟨g51, 0, none⟩ : Addr))), (10, .int .i64 (t38.Words.length : Int))]) (by kernel_rfl) ?_ rfl
  clear hs; intro a hs
  obtain ⟨y79, hy79, H⟩ := nm_some H
  replace hs : Slots a 155 [(1, .int .u8 a1), (2, .int .u8 a2), (8, .pointer (some (⟨g27, 0, none⟩ : Addr))), (9, .pointer (some (⟨g51, 0, none⟩ : Addr))), (10, .int .i64 y79)] := by rw [hy79]; exact hs
  refine go_end (by kernel_rfl) ?_
  refine hK78 _ _ ?_
  refine go_seq_k fun K80 hK80 => ?_
  refine go_region ?_
  refine go_pvs 0 1 [1, 2, 8, 9, 10, 11] hs (L' := [(1, .int .u8 a1), (2, .int .u8 a2), (8, .pointer (some (⟨g27, 0, none⟩ : Addr))), (9, .pointer (some (⟨g51, 0, none⟩ : Addr))), (10, .int .i64 y79), (11, .int .i64 0)]) (by kernel_rfl) ?_ rfl
  clear hs; intro a hs
  refine go_end (by kernel_rfl) ?_
  refine hK80 _ _ ?_
  refine go_seq_k fun K81 hK81 => ?_
  have hJ3 : ∀ (Aa197 : Option Addr) (cc198 : Nat) (l196 : List Int) (Aa200 : Option Addr) (cc201 : Nat) (l199 : List Sapi_Sym) (Aa202 : Option Addr) (cc203 : Nat) (l204 : List Int) (v205 : Int) (a : Act) (w : World), Slots a 155 [(8, .pointer (some (⟨g27, 0, none⟩ : Addr))), (9, .pointer (some (⟨g51, 0, none⟩ : Addr))), (11, .int .i64 v205)] → St [] w0 w [box g51 26 [.slice Aa197 l196.length cc198, .slice Aa202 l204.length cc203, .slice Aa200 l199.length cc201], own 39 eSapi_Sym none 0 ([] : List Sapi_Sym), own 3 (eI .i64) none 0 ([] : List Int), own 37 (eI .u32) none 0 ([] : List Int), own 37 (eI .u32) Aa197 cc198 l196, own 39 eSapi_Sym Aa200 cc201 l199, box g27 26 [.slice Aa16 t14.Words.length cc17, .slice Aa18 t14.Sites.length cc19, .slice Aa20 t14.Syms.length cc21], own 39 eSapi_Sym none 0 ([] : List Sapi_Sym), own 3 (eI .i64) none 0 ([] : List Int), own 37 (eI .u32) none 0 ([] : List Int), own 37 (eI .u32) Aa16 cc17 t14.Words, own 3 (eI .i64) Aa18 cc19 t14.Sites, own 39 eSapi_Sym Aa20 cc21 t14.Syms, box g2 35 [.slice A0_1 a0.Words.length c0_1, .slice A0_2 a0.Bits.length c0_2, .slice A0_3 a0.Names.length c0_3], own 3 (eI .i64) Aa202 cc203 l204] → rivetlaw09_ObjectSpoilt.j3 t14 l196 l199 l204 v205 = some r → K81 a w := by
   intro Aa197 cc198 l196 Aa200 cc201 l199 Aa202 cc203 l204 v205 a w hs hw H
   unfold rivetlaw09_ObjectSpoilt.j3 at H
   refine hK81 _ _ ?_
   refine go_seq_k fun K206 hK206 => ?_
   have hJ4 : ∀ (v218 : Bool) (a : Act) (w : World), Slots a 155 [(6, .bool v218)] → St [] w0 w [box g51 26 [.slice Aa197 l196.length cc198, .slice Aa202 l204.length cc203, .slice Aa200 l199.length cc201], own 39 eSapi_Sym none 0 ([] : List Sapi_Sym), own 3 (eI .i64) none 0 ([] : List Int), own 37 (eI .u32) none 0 ([] : List Int), own 37 (eI .u32) Aa197 cc198 l196, own 39 eSapi_Sym Aa200 cc201 l199, box g27 26 [.slice Aa16 t14.Words.length cc17, .slice Aa18 t14.Sites.length cc19, .slice Aa20 t14.Syms.length cc21], own 39 eSapi_Sym none 0 ([] : List Sapi_Sym), own 3 (eI .i64) none 0 ([] : List Int), own 37 (eI .u32) none 0 ([] : List Int), own 37 (eI .u32) Aa16 cc17 t14.Words, own 3 (eI .i64) Aa18 cc19 t14.Sites, own 39 eSapi_Sym Aa20 cc21 t14.Syms, box g2 35 [.slice A0_1 a0.Words.length c0_1, .slice A0_2 a0.Bits.length c0_2, .slice A0_3 a0.Names.length c0_3], own 3 (eI .i64) Aa202 cc203 l204] → rivetlaw09_ObjectSpoilt.j4 v218 = some r → K206 a w := by
    intro v218 a w hs hw H
    unfold rivetlaw09_ObjectSpoilt.j4 at H
    refine hK206 _ _ ?_
    refine wp_ret ?_
    obtain rfl := Option.some.inj H
    refine ret1 (t := 6) (v := .bool v218) hs (by kernel_rfl) (by kernel_rfl) ?_
    exact ⟨rfl, hw.only 0⟩
   refine go_region ?_
   refine go_run hs (op := (Op.load 26 (Operand.tmp 9))) (ty := 26) (dst := some 143) (g := none) (by kernel_rfl) (by kernel_rfl) (by kernel_rfl) (x_blds (g := g51) (o := 0) (p := (⟨g51, 0, none⟩ : Addr)) (vs := [.slice Aa197 l196.length cc198, .slice Aa202 l204.length cc203, .slice Aa200 l199.length cc201]) (hw.up 0) (by kernel_rfl) rfl (by kernel_rfl) (by kernel_rfl) (by kernel_rfl)) [8, 9, 11, 143] (L' := [(8, .pointer (some (⟨g27, 0, none⟩ : Addr))), (9, .pointer (some (⟨g51, 0, none⟩ : Addr))), (11, .int .i64 v205), (143, .agg #[.slice Aa197 l196.length cc198, .slice Aa202 l204.length cc203, .slice Aa200 l199.length cc201])]) (by kernel_rfl) ?_
   clear hs; intro a hs
   obtain ⟨t208, hx209, H⟩ := bind_some H
   refine go_call hs (op := (Op.call { callee := (Callee.value (Operand.func 15)), args := #[(Operand.tmp 143)], argTypes := #[26] })) (ty := 29) (dst := some 144) (g := none) (by kernel_rfl) (by kernel_rfl) (by kernel_rfl) (f := 15) (args := #[.agg #[.slice Aa197 l196.length cc198, .slice Aa202 l204.length cc203, .slice Aa200 l199.length cc201]]) (by kernel_rfl) (object_May.calls (⟨l196, l204, l199⟩ : Sapi_Obj) Aa197 cc198 Aa202 cc203 Aa200 cc201 t208 _ (Rd.of_own (hw.up 4)) (Rd.of_own (hw.up 14)) (Rd.of_own (hw.up 5)) hx209) ?_
   rintro e wd210 ⟨rfl, hw211⟩
   refine ⟨_, rfl, ?_⟩
   replace hw := hw.call hw211
   intro a hs1
   replace hs : Slots a 155 [(8, .pointer (some (⟨g27, 0, none⟩ : Addr))), (9, .pointer (some (⟨g51, 0, none⟩ : Addr))), (11, .int .i64 v205), (144, .int .i64 t208)] := hs1.keep [8, 9, 11, 144] (by kernel_rfl)
   clear hs1
   refine go_pvs 2 5 [8, 9, 11, 147] hs (L' := [(8, .pointer (some (⟨g27, 0, none⟩ : Addr))), (9, .pointer (some (⟨g51, 0, none⟩ : Addr))), (11, .int .i64 v205), (147, .bool (t208 == v205))]) (by kernel_rfl) ?_ rfl
   clear hs; intro a hs
   cases hb212 : (t208 == v205)
   ·replace H := ite_f H (beq_eq_false_iff_ne.1 hb212)
    rw [hb212] at hs
    refine go_pvs 5 13 [6] hs (L' := [(6, .bool false)]) (by kernel_rfl) ?_ rfl
    clear hs; intro a hs
    refine go_end (by kernel_rfl) ?_
    replace hw := hw.up 14
    replace hw := hw.up 14
    replace hw := hw.up 14
    replace hw := hw.up 14
    replace hw := hw.up 14
    replace hw := hw.up 14
    replace hw := hw.up 14
    replace hw := hw.up 14
    replace hw := hw.up 14
    replace hw := hw.up 14
    replace hw := hw.up 14
    replace hw := hw.up 14
    replace hw := hw.up 14
    replace hw := hw.up 14
    replace hw := hw.up 14
    replace hw := hw.only 15
    exact hJ4 false _ _ (hs.keep [6] (by kernel_rfl)) hw H
   ·replace H := ite_t H (beq_iff_eq.1 hb212)
    rw [hb212] at hs
    refine go_run hs (op := (Op.load 26 (Operand.tmp 8))) (ty := 26) (dst := some 148) (g := some (4, true)) (by kernel_rfl) (by kernel_rfl) (by kernel_rfl) (x_blds (g := g27) (o := 0) (p := (⟨g27, 0, none⟩ : Addr)) (vs := [.slice Aa16 t14.Words.length cc17, .slice Aa18 t14.Sites.length cc19, .slice Aa20 t14.Syms.length cc21]) (hw.up 6) (by kernel_rfl) rfl (by kernel_rfl) (by kernel_rfl) (by kernel_rfl)) [9, 11, 147, 148] (L' := [(9, .pointer (some (⟨g51, 0, none⟩ : Addr))), (11, .int .i64 v205), (147, .bool true), (148, .agg #[.slice Aa16 t14.Words.length cc17, .slice Aa18 t14.Sites.length cc19, .slice Aa20 t14.Syms.length cc21])]) (by kernel_rfl) ?_
    clear hs; intro a hs
    refine go_run hs (op := (Op.load 26 (Operand.tmp 9))) (ty := 26) (dst := some 149) (g := some (4, true)) (by kernel_rfl) (by kernel_rfl) (by kernel_rfl) (x_blds (g := g51) (o := 0) (p := (⟨g51, 0, none⟩ : Addr)) (vs := [.slice Aa197 l196.length cc198, .slice Aa202 l204.length cc203, .slice Aa200 l199.length cc201]) (hw.up 0) (by kernel_rfl) rfl (by kernel_rfl) (by kernel_rfl) (by kernel_rfl)) [11, 147, 148, 149] (L' := [(11, .int .i64 v205), (147, .bool true), (148, .agg #[.slice Aa16 t14.Words.length cc17, .slice Aa18 t14.Sites.length cc19, .slice Aa20 t14.Syms.length cc21]), (149, .agg #[.slice Aa197 l196.length cc198, .slice Aa202 l204.length cc203, .slice Aa200 l199.length cc201])]) (by kernel_rfl) ?_
    clear hs; intro a hs
    obtain ⟨t214, hx215, H⟩ := bind_some H
    refine go_call hs (op := (Op.call { callee := (Callee.value (Operand.func 17)), args := #[(Operand.tmp 148), (Operand.tmp 149)], argTypes := #[26, 26] })) (ty := 4) (dst := some 150) (g := some (4, true)) (by kernel_rfl) (by kernel_rfl) (by kernel_rfl) (f := 17) (args := #[.agg #[.slice Aa16 t14.Words.length cc17, .slice Aa18 t14.Sites.length cc19, .slice Aa20 t14.Syms.length cc21], .agg #[.slice Aa197 l196.length cc198, .slice Aa202 l204.length cc203, .slice Aa200 l199.length cc201]]) (by kernel_rfl) (object_Same.calls t14 Aa16 cc17 Aa18 cc19 Aa20 cc21 (⟨l196, l204, l199⟩ : Sapi_Obj) Aa197 cc198 Aa202 cc203 Aa200 cc201 t214 _ (Rd.of_own (hw.up 10)) (Rd.of_own (hw.up 11)) (Rd.of_own (hw.up 12)) (Rd.of_own (hw.up 4)) (Rd.of_own (hw.up 14)) (Rd.of_own (hw.up 5)) hx215) ?_
    rintro e wd216 ⟨rfl, hw217⟩
    refine ⟨_, rfl, ?_⟩
    replace hw := hw.call hw217
    intro a hs1
    replace hs : Slots a 155 [(11, .int .i64 v205), (147, .bool true), (150, .bool t214)] := hs1.keep [11, 147, 150] (by kernel_rfl)
    clear hs1
    refine go_pvs 8 13 [6] hs (L' := [(6, .bool (t214 == (v205 == 0)))]) (by kernel_rfl) ?_ rfl
    clear hs; intro a hs
    refine go_end (by kernel_rfl) ?_
    replace hw := hw.up 14
    replace hw := hw.up 14
    replace hw := hw.up 14
    replace hw := hw.up 14
    replace hw := hw.up 14
    replace hw := hw.up 14
    replace hw := hw.up 14
    replace hw := hw.up 14
    replace hw := hw.up 14
    replace hw := hw.up 14
    replace hw := hw.up 14
    replace hw := hw.up 14
    replace hw := hw.up 14
    replace hw := hw.up 14
    replace hw := hw.up 14
    replace hw := hw.only 15
    exact hJ4 (t214 == (v205 == 0)) _ _ (hs.keep [6] (by kernel_rfl)) hw H
  refine go_seq_k fun K82 hK82 => ?_
  refine go_region ?_
  refine go_pvs 0 2 [2, 8, 9, 10, 11, 44] hs (L' := [(2, .int .u8 a2), (8, .pointer (some (⟨g27, 0, none⟩ : Addr))), (9, .pointer (some (⟨g51, 0, none⟩ : Addr))), (10, .int .i64 y79), (11, .int .i64 0), (44, .int .u8 (a1.tmod 7))]) (by kernel_rfl) ?_ rfl
  clear hs; intro a hs
  refine go_end (by kernel_rfl) ?_
  refine hK82 _ _ ?_
  refine wp_block ?_
  refine go_seq_k fun K83 hK83 => ?_
  refine go_region ?_
  refine go_pvs 0 2 [2, 8, 9, 10, 11, 44, 51] hs (L' := [(2, .int .u8 a2), (8, .pointer (some (⟨g27, 0, none⟩ : Addr))), (9, .pointer (some (⟨g51, 0, none⟩ : Addr))), (10, .int .i64 y79), (11, .int .i64 0), (44, .int .u8 (a1.tmod 7)), (51, .bool ((a1.tmod 7) == 0))]) (by kernel_rfl) ?_ rfl
  clear hs; intro a hs
  refine go_end (by kernel_rfl) ?_
  refine hK83 _ _ ?_
  refine go_cond hs ((a1.tmod 7) == 0) (by kernel_rfl) (fun hc => ?_) (fun hc => ?_)
  ·replace H := ite_t H (beq_iff_eq.1 hc)
   have hb84 := hc
   rw [hb84] at hs
   refine go_seq_k fun K85 hK85 => ?_
   refine go_region ?_
   refine go_pvs 0 1 [8, 9, 10, 53] hs (L' := [(8, .pointer (some (⟨g27, 0, none⟩ : Addr))), (9, .pointer (some (⟨g51, 0, none⟩ : Addr))), (10, .int .i64 y79), (53, .pointer (some (((⟨g51, 0, none⟩ : Addr) : Addr).add 1)))]) (by kernel_rfl) ?_ rfl
   clear hs; intro a hs
   refine go_run hs (op := (Op.load 23 (Operand.tmp 53))) (ty := 23) (dst := some 54) (g := none) (by kernel_rfl) (by kernel_rfl) (by kernel_rfl) (x_bld (g := g51) (o := 1) (p := ((⟨g51, 0, none⟩ : Addr) : Addr).add 1) (v := .slice Aa42 t38.Sites.length cc43) (hw.up 0) (by kernel_rfl) rfl (by kernel_rfl) (by kernel_rfl)) [8, 9, 10, 54] (L' := [(8, .pointer (some (⟨g27, 0, none⟩ : Addr))), (9, .pointer (some (⟨g51, 0, none⟩ : Addr))), (10, .int .i64 y79), (54, .slice Aa42 t38.Sites.length cc43)]) (by kernel_rfl) ?_
   clear hs; intro a hs
   refine go_pvs 2 3 [8, 9, 54, 55] hs (L' := [(8, .pointer (some (⟨g27, 0, none⟩ : Addr))), (9, .pointer (some (⟨g51, 0, none⟩ : Addr))), (54, .slice Aa42 t38.Sites.length cc43), (55, .int .i64 y79)]) (by kernel_rfl) ?_ rfl
   clear hs; intro a hs
   obtain ⟨Aa86, cc87, wd88, hx89, hw⟩ := n_lit (P := Tryd.prog) (t := 23) (ty := 23) (T := 3) (len := 1) (parts := #[(0, (Operand.tmp 55))]) (z := .int .i64 0) (bytes := 8) (cells := #[.int .i64 y79]) hs hw (eI .i64) ([y79] : List Int) (by kernel_rfl) (by kernel_rfl) (by kernel_rfl) (by kernel_rfl) (by kernel_rfl) (by kernel_rfl) (by kernel_rfl)
   refine go_run hs (op := (Op.buildSlice 23 1 #[(0, (Operand.tmp 55))])) (ty := 23) (dst := some 56) (g := none) (by kernel_rfl) (by kernel_rfl) (by kernel_rfl) hx89 [8, 9, 54, 56] (L' := [(8, .pointer (some (⟨g27, 0, none⟩ : Addr))), (9, .pointer (some (⟨g51, 0, none⟩ : Addr))), (54, .slice Aa42 t38.Sites.length cc43), (56, .slice Aa86 ([y79] : List Int).length cc87)]) (by kernel_rfl) ?_
   clear hs; intro a hs
   obtain ⟨hp91, H⟩ := ite_only H
   have hsrc96 : Src Tryd.prog (eI .i64).sz 23 (.slice Aa86 ([y79] : List Int).length cc87) ([y79] : List Int).length (([y79] : List Int).flatMap (eI .i64).enc) _ := (Src.of_rd (E := (eI .i64)) (e' := 3) (by kernel_rfl) (Rd.of_own (hw.up 0)))
   replace hw := hw.up 6
   obtain ⟨Aa92, cc93, wd94, hx95, hw⟩ := x_append (P := Tryd.prog) (t := 23) (tx := 23) (ty := 23) (x := (Operand.tmp 54)) (y := (Operand.tmp 56)) (z := .int .i64 0) (bytes := 8) (l2 := ([y79] : List Int)) hs hw (by kernel_rfl) (by kernel_rfl) (by kernel_rfl) (by kernel_rfl) (by kernel_rfl) hsrc96 (by omega) (by omega)
   refine go_run hs (op := (Op.call { callee := (Callee.builtin Builtin.append), args := #[(Operand.tmp 54), (Operand.tmp 56)], argTypes := #[23, 23] })) (ty := 23) (dst := some 57) (g := none) (by kernel_rfl) (by kernel_rfl) (by kernel_rfl) hx95 [8, 9, 57] (L' := [(8, .pointer (some (⟨g27, 0, none⟩ : Addr))), (9, .pointer (some (⟨g51, 0, none⟩ : Addr))), (57, .slice Aa92 (t38.Sites ++ ([y79] : List Int)).length cc93)]) (by kernel_rfl) ?_
   clear hs; intro a hs
   refine go_pvs 5 6 [8, 9, 57, 58] hs (L' := [(8, .pointer (some (⟨g27, 0, none⟩ : Addr))), (9, .pointer (some (⟨g51, 0, none⟩ : Addr))), (57, .slice Aa92 (t38.Sites ++ ([y79] : List Int)).length cc93), (58, .pointer (some (((⟨g51, 0, none⟩ : Addr) : Addr).add 1)))]) (by kernel_rfl) ?_ rfl
   clear hs; intro a hs
   replace hw := hw.up 2
   obtain ⟨wd97, hx98, hw⟩ := x_bput (P := Tryd.prog) (ty := 0) (t := 23) (y := (Operand.tmp 58)) (z := (Operand.tmp 57)) (o := 1) (p := ((⟨g51, 0, none⟩ : Addr) : Addr).add 1) (v := .slice Aa92 (t38.Sites ++ ([y79] : List Int)).length cc93) (vs := [.slice Aa92 (t38.Sites ++ ([y79] : List Int)).length cc93]) (cs' := [.slice Aa40 t38.Words.length cc41, .slice Aa92 (t38.Sites ++ ([y79] : List Int)).length cc93, .slice Aa44 t38.Syms.length cc45]) hs hw (by kernel_rfl) rfl (by kernel_rfl) rfl (by kernel_rfl) (by kernel_rfl) (by simp [Value.oneCell']) rfl
   refine go_unit hs (op := (Op.store 23 (Operand.tmp 58) (Operand.tmp 57))) (ty := 0) (dst := none) (g := none) (by kernel_rfl) (by kernel_rfl) (by kernel_rfl) hx98 [8, 9] (L' := [(8, .pointer (some (⟨g27, 0, none⟩ : Addr))), (9, .pointer (some (⟨g51, 0, none⟩ : Addr)))]) (by kernel_rfl) ?_
   clear hs; intro a hs
   refine go_end (by kernel_rfl) ?_
   refine hK85 _ _ ?_
   refine go_region ?_
   refine go_pvs 0 1 [8, 9, 11] hs (L' := [(8, .pointer (some (⟨g27, 0, none⟩ : Addr))), (9, .pointer (some (⟨g51, 0, none⟩ : Addr))), (11, .int .i64 7)]) (by kernel_rfl) ?_ rfl
   clear hs; intro a hs
   refine go_end (by kernel_rfl) ?_
   refine ib_norm ?_
   replace hw := hw.up 1
   replace hw := hw.up 15
   replace hw := hw.up 15
   replace hw := hw.up 15
   replace hw := hw.up 15
   replace hw := hw.up 15
   replace hw := hw.up 15
   replace hw := hw.up 15
   replace hw := hw.up 15
   replace hw := hw.up 15
   replace hw := hw.up 15
   replace hw := hw.up 15
   replace hw := hw.up 15
   replace hw := hw.up 15
   replace hw := hw.up 14
   replace hw := hw.only 15
   exact hJ3 Aa40 cc41 t38.Words Aa44 cc45 t38.Syms Aa92 cc93 (t38.Sites ++ ([y79] : List Int)) 7 _ _ (hs.keep [8, 9, 11] (by kernel_rfl)) hw H
  ·replace H := ite_f H (beq_eq_false_iff_ne.1 hc)
   have hb99 := hc
   rw [hb99] at hs
   refine go_seq_k fun K100 hK100 => ?_
   refine go_region ?_
   refine go_pvs 0 2 [2, 8, 9, 10, 11, 44, 59] hs (L' := [(2, .int .u8 a2), (8, .pointer (some (⟨g27, 0, none⟩ : Addr))), (9, .pointer (some (⟨g51, 0, none⟩ : Addr))), (10, .int .i64 y79), (11, .int .i64 0), (44, .int .u8 (a1.tmod 7)), (59, .bool ((a1.tmod 7) == 1))]) (by kernel_rfl) ?_ rfl
   clear hs; intro a hs
   refine go_end (by kernel_rfl) ?_
   refine hK100 _ _ ?_
   refine go_cond hs ((a1.tmod 7) == 1) (by kernel_rfl) (fun hc => ?_) (fun hc => ?_)
   ·replace H := ite_t H (beq_iff_eq.1 hc)
    have hb101 := hc
    rw [hb101] at hs
    refine go_seq_k fun K102 hK102 => ?_
    refine go_region ?_
    refine go_pvs 0 1 [2, 8, 9, 10, 11, 61] hs (L' := [(2, .int .u8 a2), (8, .pointer (some (⟨g27, 0, none⟩ : Addr))), (9, .pointer (some (⟨g51, 0, none⟩ : Addr))), (10, .int .i64 y79), (11, .int .i64 0), (61, .pointer (some (((⟨g51, 0, none⟩ : Addr) : Addr).add 1)))]) (by kernel_rfl) ?_ rfl
    clear hs; intro a hs
    refine go_run hs (op := (Op.load 23 (Operand.tmp 61))) (ty := 23) (dst := some 62) (g := none) (by kernel_rfl) (by kernel_rfl) (by kernel_rfl) (x_bld (g := g51) (o := 1) (p := ((⟨g51, 0, none⟩ : Addr) : Addr).add 1) (v := .slice Aa42 t38.Sites.length cc43) (hw.up 0) (by kernel_rfl) rfl (by kernel_rfl) (by kernel_rfl)) [2, 8, 9, 10, 11, 62] (L' := [(2, .int .u8 a2), (8, .pointer (some (⟨g27, 0, none⟩ : Addr))), (9, .pointer (some (⟨g51, 0, none⟩ : Addr))), (10, .int .i64 y79), (11, .int .i64 0), (62, .slice Aa42 t38.Sites.length cc43)]) (by kernel_rfl) ?_
    clear hs; intro a hs
    refine go_pvs 2 4 [2, 8, 9, 10, 11, 64] hs (L' := [(2, .int .u8 a2), (8, .pointer (some (⟨g27, 0, none⟩ : Addr))), (9, .pointer (some (⟨g51, 0, none⟩ : Addr))), (10, .int .i64 y79), (11, .int .i64 0), (64, .bool (decide ((t38.Sites.length : Int) > 0)))]) (by kernel_rfl) ?_ rfl
    clear hs; intro a hs
    refine go_end (by kernel_rfl) ?_
    refine hK102 _ _ ?_
    refine go_cond hs (decide ((t38.Sites.length : Int) > 0)) (by kernel_rfl) (fun hc => ?_) (fun hc => ?_)
    ·replace H := ite_t H (of_decide_eq_true hc)
     have hb103 := hc
     rw [hb103] at hs
     refine go_seq_k fun K104 hK104 => ?_
     refine d_region [17] [(true, [0, 1, 2, 3, 4, 5, 6, 7, 8, 9, 10, 11, 12, 13, 14, 15, 16], 17)] [] (by kernel_rfl) (by kernel_rfl) (fun c a d v w h => by cases d <;> exact h) ?_
     refine d_seg ?_
     refine c_pvs [0] [1, 2, 3, 4, 5, 6, 7, 8, 9, 10, 11, 12, 13, 14, 15, 16] [2, 8, 9, 10, 65] hs (L' := [(2, .int .u8 a2), (8, .pointer (some (⟨g27, 0, none⟩ : Addr))), (9, .pointer (some (⟨g51, 0, none⟩ : Addr))), (10, .int .i64 y79), (65, .pointer (some (((⟨g51, 0, none⟩ : Addr) : Addr).add 0)))]) (by kernel_rfl) ?_ (by kernel_rfl)
     clear hs; intro a hs
     refine d_run hs (op := (Op.load 22 (Operand.tmp 65))) (ty := 22) (dst := some 66) (g := none) (by kernel_rfl) (by kernel_rfl) (by kernel_rfl) (fun wx hbx => (x_bldD (g := g51) (o := 0) (p := ((⟨g51, 0, none⟩ : Addr) : Addr).add 0) (v := .slice Aa40 t38.Words.length cc41) (hw.up 0) hbx (by kernel_rfl) rfl (by kernel_rfl) (by kernel_rfl))) [2, 8, 9, 10, 66] (L' := [(2, .int .u8 a2), (8, .pointer (some (⟨g27, 0, none⟩ : Addr))), (9, .pointer (some (⟨g51, 0, none⟩ : Addr))), (10, .int .i64 y79), (66, .slice Aa40 t38.Words.length cc41)]) (by kernel_rfl) ?_
     clear hs; intro a hs
     refine c_pvs [2] [3, 4, 5, 6, 7, 8, 9, 10, 11, 12, 13, 14, 15, 16] [2, 8, 9, 10, 66, 67] hs (L' := [(2, .int .u8 a2), (8, .pointer (some (⟨g27, 0, none⟩ : Addr))), (9, .pointer (some (⟨g51, 0, none⟩ : Addr))), (10, .int .i64 y79), (66, .slice Aa40 t38.Words.length cc41), (67, .pointer (some (((⟨g51, 0, none⟩ : Addr) : Addr).add 1)))]) (by kernel_rfl) ?_ (by kernel_rfl)
     clear hs; intro a hs
     refine d_run hs (op := (Op.load 23 (Operand.tmp 67))) (ty := 23) (dst := some 68) (g := none) (by kernel_rfl) (by kernel_rfl) (by kernel_rfl) (fun wx hbx => (x_bldD (g := g51) (o := 1) (p := ((⟨g51, 0, none⟩ : Addr) : Addr).add 1) (v := .slice Aa42 t38.Sites.length cc43) (hw.up 0) hbx (by kernel_rfl) rfl (by kernel_rfl) (by kernel_rfl))) [2, 8, 9, 10, 66, 68] (L' := [(2, .int .u8 a2), (8, .pointer (some (⟨g27, 0, none⟩ : Addr))), (9, .pointer (some (⟨g51, 0, none⟩ : Addr))), (10, .int .i64 y79), (66, .slice Aa40 t38.Words.length cc41), (68, .slice Aa42 t38.Sites.length cc43)]) (by kernel_rfl) ?_
     clear hs; intro a hs
     refine c_pvs [4, 5, 6] [7, 8, 9, 10, 11, 12, 13, 14, 15, 16] [8, 9, 10, 66, 68, 70, 71] hs (L' := [(8, .pointer (some (⟨g27, 0, none⟩ : Addr))), (9, .pointer (some (⟨g51, 0, none⟩ : Addr))), (10, .int .i64 y79), (66, .slice Aa40 t38.Words.length cc41), (68, .slice Aa42 t38.Sites.length cc43), (70, .int .i64 (w64 a2)), (71, .pointer (some (((⟨g51, 0, none⟩ : Addr) : Addr).add 1)))]) (by kernel_rfl) ?_ (by kernel_rfl)
     clear hs; intro a hs
     refine d_run hs (op := (Op.load 23 (Operand.tmp 71))) (ty := 23) (dst := some 72) (g := none) (by kernel_rfl) (by kernel_rfl) (by kernel_rfl) (fun wx hbx => (x_bldD (g := g51) (o := 1) (p := ((⟨g51, 0, none⟩ : Addr) : Addr).add 1) (v := .slice Aa42 t38.Sites.length cc43) (hw.up 0) hbx (by kernel_rfl) rfl (by kernel_rfl) (by kernel_rfl))) [8, 9, 10, 66, 68, 70, 72] (L' := [(8, .pointer (some (⟨g27, 0, none⟩ : Addr))), (9, .pointer (some (⟨g51, 0, none⟩ : Addr))), (10, .int .i64 y79), (66, .slice Aa40 t38.Words.length cc41), (68, .slice Aa42 t38.Sites.length cc43), (70, .int .i64 (w64 a2)), (72, .slice Aa42 t38.Sites.length cc43)]) (by kernel_rfl) ?_
     clear hs; intro a hs
     refine c_pvs [8] [9, 10, 11, 12, 13, 14, 15, 16] [8, 9, 10, 66, 68, 70, 73] hs (L' := [(8, .pointer (some (⟨g27, 0, none⟩ : Addr))), (9, .pointer (some (⟨g51, 0, none⟩ : Addr))), (10, .int .i64 y79), (66, .slice Aa40 t38.Words.length cc41), (68, .slice Aa42 t38.Sites.length cc43), (70, .int .i64 (w64 a2)), (73, .int .i64 (t38.Sites.length : Int))]) (by kernel_rfl) ?_ (by kernel_rfl)
     clear hs; intro a hs
     obtain ⟨hp105, H⟩ := ite_only H
     refine d_run hs (op := (Op.binOp BinOp.rem 3 (Operand.tmp 70) (Operand.tmp 73) 3)) (ty := 3) (dst := some 74) (g := none) (by kernel_rfl) (by kernel_rfl) (by kernel_rfl) (fun wx hbx => (x_rem (k := .i64) (m := w64 a2) (n := (t38.Sites.length : Int)) (by kernel_rfl) (by kernel_rfl) hp105)) [8, 9, 10, 66, 68, 74] (L' := [(8, .pointer (some (⟨g27, 0, none⟩ : Addr))), (9, .pointer (some (⟨g51, 0, none⟩ : Addr))), (10, .int .i64 y79), (66, .slice Aa40 t38.Words.length cc41), (68, .slice Aa42 t38.Sites.length cc43), (74, .int .i64 ((w64 a2).tmod (t38.Sites.length : Int)))]) (by kernel_rfl) ?_
     clear hs; intro a hs
     obtain ⟨hp106, H⟩ := ite_only H
     obtain ⟨ad107, rfl⟩ := (Rd.of_own (hw.up 5)).some hp106.1 hp106.2
     refine d_run hs (op := (Op.indexAddr 23 (Operand.tmp 68) (Operand.tmp 74))) (ty := 0) (dst := some 75) (g := none) (by kernel_rfl) (by kernel_rfl) (by kernel_rfl) (fun wx hbx => (x_idx (T := 3) (sz := 1) (a := ad107) (n := t38.Sites.length) (cap := cc43) (k := .i64) (i := ((w64 a2).tmod (t38.Sites.length : Int))) (by kernel_rfl) (by kernel_rfl) (by kernel_rfl) (by kernel_rfl) hp106.1 hp106.2)) [8, 9, 10, 66, 75] (L' := [(8, .pointer (some (⟨g27, 0, none⟩ : Addr))), (9, .pointer (some (⟨g51, 0, none⟩ : Addr))), (10, .int .i64 y79), (66, .slice Aa40 t38.Words.length cc41), (75, .pointer (some (ad107.add (((w64 a2).tmod (t38.Sites.length : Int)).toNat * 1))))]) (by kernel_rfl) ?_
     clear hs; intro a hs
     refine d_run hs (op := (Op.load 3 (Operand.tmp 75))) (ty := 3) (dst := some 76) (g := none) (by kernel_rfl) (by kernel_rfl) (by kernel_rfl) (fun wx hbx => (x_ld (E := (eI .i64)) (off := 0) (p := ad107.add (((w64 a2).tmod (t38.Sites.length : Int)).toNat * 1)) (v := .int .i64 (ix (eI .i64).d t38.Sites ((w64 a2).tmod (t38.Sites.length : Int)))) (Rd.bn (Rd.of_own (hw.up 5)) hbx) hp106.1 hp106.2 (by kernel_rfl) rfl (by kernel_rfl) (by kernel_rfl))) [8, 9, 10, 66, 76] (L' := [(8, .pointer (some (⟨g27, 0, none⟩ : Addr))), (9, .pointer (some (⟨g51, 0, none⟩ : Addr))), (10, .int .i64 y79), (66, .slice Aa40 t38.Words.length cc41), (76, .int .i64 (ix (eI .i64).d t38.Sites ((w64 a2).tmod (t38.Sites.length : Int))))]) (by kernel_rfl) ?_
     clear hs; intro a hs
     refine c_pvs [12, 13, 14, 15] [16] [8, 9, 66, 76, 80] hs (L' := [(8, .pointer (some (⟨g27, 0, none⟩ : Addr))), (9, .pointer (some (⟨g51, 0, none⟩ : Addr))), (66, .slice Aa40 t38.Words.length cc41), (76, .int .i64 (ix (eI .i64).d t38.Sites ((w64 a2).tmod (t38.Sites.length : Int)))), (80, .int .u32 (wu32 (w64 ((w64 (4 * y79)) + 1))))]) (by kernel_rfl) ?_ (by kernel_rfl)
     clear hs; intro a hs
     obtain ⟨hp108, H⟩ := ite_only H
     obtain ⟨ad109, rfl⟩ := (Rd.of_own (hw.up 4)).some hp108.1 hp108.2
     refine d_run hs (op := (Op.indexAddr 22 (Operand.tmp 66) (Operand.tmp 76))) (ty := 0) (dst := some 81) (g := none) (by kernel_rfl) (by kernel_rfl) (by kernel_rfl) (fun wx hbx => (x_idx (T := 37) (sz := 1) (a := ad109) (n := t38.Words.length) (cap := cc41) (k := .i64) (i := (ix (eI .i64).d t38.Sites ((w64 a2).tmod (t38.Sites.length : Int)))) (by kernel_rfl) (by kernel_rfl) (by kernel_rfl) (by kernel_rfl) hp108.1 hp108.2)) [8, 9, 80, 81] (L' := [(8, .pointer (some (⟨g27, 0, none⟩ : Addr))), (9, .pointer (some (⟨g51, 0, none⟩ : Addr))), (80, .int .u32 (wu32 (w64 ((w64 (4 * y79)) + 1)))), (81, .pointer (some (ad109.add ((ix (eI .i64).d t38.Sites ((w64 a2).tmod (t38.Sites.length : Int))).toNat * 1))))]) (by kernel_rfl) ?_
     clear hs; intro a hs
     refine c_end ?_
     intro wq hbq
     replace hw := hw.behind hbq
     replace hw := hw.up 4
     obtain ⟨wd110, hx111, hw⟩ := x_put (P := Tryd.prog) (ty := 0) (t := 37) (x := (Operand.tmp 81)) (y := (Operand.tmp 80)) (off := 0) (p := ad109.add ((ix (eI .i64).d t38.Sites ((w64 a2).tmod (t38.Sites.length : Int))).toNat * 1)) (v := .int .u32 (wu32 (w64 ((w64 (4 * y79)) + 1)))) (vs := [.int .u32 (wu32 (w64 ((w64 (4 * y79)) + 1)))]) (i := (ix (eI .i64).d t38.Sites ((w64 a2).tmod (t38.Sites.length : Int)))) (e' := (wu32 (w64 ((w64 (4 * y79)) + 1)) : Int)) hs hw rfl hp108.1 hp108.2 (by kernel_rfl) rfl (by kernel_rfl) rfl (by kernel_rfl) (Nat.le_of_ble_eq_true rfl) (by simp [Value.oneCell']) (by kernel_rfl)
     refine p_unit hs (op := (Op.store 37 (Operand.tmp 81) (Operand.tmp 80))) (ty := 0) (dst := none) (g := none) (by kernel_rfl) (by kernel_rfl) (by kernel_rfl) hx111 [8, 9] (L' := [(8, .pointer (some (⟨g27, 0, none⟩ : Addr))), (9, .pointer (some (⟨g51, 0, none⟩ : Addr)))]) (by kernel_rfl) ?_
     clear hs; intro a hs
     replace hw : St [] w0 wd110 [own 37 (eI .u32) (some ad109) cc41 (t38.Words.set ((ix (eI .i64).d t38.Sites ((w64 a2).tmod (t38.Sites.length : Int))) : Int).toNat (wu32 (w64 ((w64 (4 * y79)) + 1)))), box g51 26 [.slice (some ad109) (t38.Words.set ((ix (eI .i64).d t38.Sites ((w64 a2).tmod (t38.Sites.length : Int))) : Int).toNat (wu32 (w64 ((w64 (4 * y79)) + 1)))).length cc41, .slice (some ad107) t38.Sites.length cc43, .slice Aa44 t38.Syms.length cc45], own 39 eSapi_Sym none 0 ([] : List Sapi_Sym), own 3 (eI .i64) none 0 ([] : List Int), own 37 (eI .u32) none 0 ([] : List Int), own 3 (eI .i64) (some ad107) cc43 t38.Sites, own 39 eSapi_Sym Aa44 cc45 t38.Syms, box g27 26 [.slice Aa16 t14.Words.length cc17, .slice Aa18 t14.Sites.length cc19, .slice Aa20 t14.Syms.length cc21], own 39 eSapi_Sym none 0 ([] : List Sapi_Sym), own 3 (eI .i64) none 0 ([] : List Int), own 37 (eI .u32) none 0 ([] : List Int), own 37 (eI .u32) Aa16 cc17 t14.Words, own 3 (eI .i64) Aa18 cc19 t14.Sites, own 39 eSapi_Sym Aa20 cc21 t14.Syms, box g2 35 [.slice A0_1 a0.Words.length c0_1, .slice A0_2 a0.Bits.length c0_2, .slice A0_3 a0.Names.length c0_3]] := by rw [show (t38.Words.set ((ix (eI .i64).d t38.Sites ((w64 a2).tmod (t38.Sites.length : Int))) : Int).toNat (wu32 (w64 ((w64 (4 * y79)) + 1)))).length = (t38.Words).length from List.length_set]; exact hw
     refine c_done ⟨.inl (by kernel_rfl), ?_⟩
     clear hbq
     refine d_last ?_
     refine c_end ?_
     intro wq hbq
     replace hw := hw.behind hbq
     refine hK104 _ _ ?_
     refine go_region ?_
     refine go_pvs 0 1 [8, 9, 11] hs (L' := [(8, .pointer (some (⟨g27, 0, none⟩ : Addr))), (9, .pointer (some (⟨g51, 0, none⟩ : Addr))), (11, .int .i64 8)]) (by kernel_rfl) ?_ rfl
     clear hs; intro a hs
     refine go_end (by kernel_rfl) ?_
     refine ib_norm ?_
     replace hw := hw.up 5
     replace hw := hw.up 14
     replace hw := hw.up 14
     replace hw := hw.up 14
     replace hw := hw.up 14
     replace hw := hw.up 14
     replace hw := hw.up 14
     replace hw := hw.up 14
     replace hw := hw.up 14
     replace hw := hw.up 14
     replace hw := hw.up 10
     replace hw := hw.up 14
     replace hw := hw.up 14
     replace hw := hw.up 14
     replace hw := hw.up 14
     replace hw := hw.only 15
     exact hJ3 (some ad109) cc41 (t38.Words.set ((ix (eI .i64).d t38.Sites ((w64 a2).tmod (t38.Sites.length : Int))) : Int).toNat (wu32 (w64 ((w64 (4 * y79)) + 1)))) Aa44 cc45 t38.Syms (some ad107) cc43 t38.Sites 8 _ _ (hs.keep [8, 9, 11] (by kernel_rfl)) hw H
    ·replace H := ite_f H (of_decide_eq_false hc)
     have hb112 := hc
     rw [hb112] at hs
     refine wp_skip ?_
     refine ib_norm ?_
     replace hw := hw.up 5
     replace hw := hw.up 14
     replace hw := hw.up 14
     replace hw := hw.up 14
     replace hw := hw.up 14
     replace hw := hw.up 14
     replace hw := hw.up 14
     replace hw := hw.up 14
     replace hw := hw.up 14
     replace hw := hw.up 14
     replace hw := hw.up 14
     replace hw := hw.up 14
     replace hw := hw.up 14
     replace hw := hw.up 14
     replace hw := hw.up 14
     replace hw := hw.only 15
     exact hJ3 Aa40 cc41 t38.Words Aa44 cc45 t38.Syms Aa42 cc43 t38.Sites 0 _ _ (hs.keep [8, 9, 11] (by kernel_rfl)) hw H
   ·replace H := ite_f H (beq_eq_false_iff_ne.1 hc)
    have hb113 := hc
    rw [hb113] at hs
    refine go_seq_k fun K114 hK114 => ?_
    refine go_region ?_
    refine go_pvs 0 2 [2, 8, 9, 10, 11, 44, 82] hs (L' := [(2, .int .u8 a2), (8, .pointer (some (⟨g27, 0, none⟩ : Addr))), (9, .pointer (some (⟨g51, 0, none⟩ : Addr))), (10, .int .i64 y79), (11, .int .i64 0), (44, .int .u8 (a1.tmod 7)), (82, .bool ((a1.tmod 7) == 2))]) (by kernel_rfl) ?_ rfl
    clear hs; intro a hs
    refine go_end (by kernel_rfl) ?_
    refine hK114 _ _ ?_
    refine go_cond hs ((a1.tmod 7) == 2) (by kernel_rfl) (fun hc => ?_) (fun hc => ?_)
    ·replace H := ite_t H (beq_iff_eq.1 hc)
     have hb115 := hc
     rw [hb115] at hs
     refine go_seq_k fun K116 hK116 => ?_
     refine go_region ?_
     refine go_pvs 0 1 [8, 9, 11, 84] hs (L' := [(8, .pointer (some (⟨g27, 0, none⟩ : Addr))), (9, .pointer (some (⟨g51, 0, none⟩ : Addr))), (11, .int .i64 0), (84, .pointer (some (((⟨g51, 0, none⟩ : Addr) : Addr).add 1)))]) (by kernel_rfl) ?_ rfl
     clear hs; intro a hs
     refine go_run hs (op := (Op.load 23 (Operand.tmp 84))) (ty := 23) (dst := some 85) (g := none) (by kernel_rfl) (by kernel_rfl) (by kernel_rfl) (x_bld (g := g51) (o := 1) (p := ((⟨g51, 0, none⟩ : Addr) : Addr).add 1) (v := .slice Aa42 t38.Sites.length cc43) (hw.up 0) (by kernel_rfl) rfl (by kernel_rfl) (by kernel_rfl)) [8, 9, 11, 85] (L' := [(8, .pointer (some (⟨g27, 0, none⟩ : Addr))), (9, .pointer (some (⟨g51, 0, none⟩ : Addr))), (11, .int .i64 0), (85, .slice Aa42 t38.Sites.length cc43)]) (by kernel_rfl) ?_
     clear hs; intro a hs
     refine go_pvs 2 4 [8, 9, 11, 87] hs (L' := [(8, .pointer (some (⟨g27, 0, none⟩ : Addr))), (9, .pointer (some (⟨g51, 0, none⟩ : Addr))), (11, .int .i64 0), (87, .bool (decide ((t38.Sites.length : Int) > 0)))]) (by kernel_rfl) ?_ rfl
     clear hs; intro a hs
     refine go_end (by kernel_rfl) ?_
     refine hK116 _ _ ?_
     refine go_cond hs (decide ((t38.Sites.length : Int) > 0)) (by kernel_rfl) (fun hc => ?_) (fun hc => ?_)
     ·replace H := ite_t H (of_decide_eq_true hc)
      have hb117 := hc
      rw [hb117] at hs
      refine go_seq_k fun K118 hK118 => ?_
      refine d_region [7, 9] [(true, [0, 1, 2, 3, 5, 6], 4), (true, [], 7), (false, [8], 9)] [] (by kernel_rfl) (by kernel_rfl) (fun c a d v w h => by cases d <;> exact h) ?_
      refine d_seg ?_
      refine c_pvs [0] [1, 2, 3, 5, 6] [8, 9, 88] hs (L' := [(8, .pointer (some (⟨g27, 0, none⟩ : Addr))), (9, .pointer (some (⟨g51, 0, none⟩ : Addr))), (88, .pointer (some (((⟨g51, 0, none⟩ : Addr) : Addr).add 1)))]) (by kernel_rfl) ?_ (by kernel_rfl)
      clear hs; intro a hs
      refine d_run hs (op := (Op.load 23 (Operand.tmp 88))) (ty := 23) (dst := some 89) (g := none) (by kernel_rfl) (by kernel_rfl) (by kernel_rfl) (fun wx hbx => (x_bldD (g := g51) (o := 1) (p := ((⟨g51, 0, none⟩ : Addr) : Addr).add 1) (v := .slice Aa42 t38.Sites.length cc43) (hw.up 0) hbx (by kernel_rfl) rfl (by kernel_rfl) (by kernel_rfl))) [8, 9, 89] (L' := [(8, .pointer (some (⟨g27, 0, none⟩ : Addr))), (9, .pointer (some (⟨g51, 0, none⟩ : Addr))), (89, .slice Aa42 t38.Sites.length cc43)]) (by kernel_rfl) ?_
      clear hs; intro a hs
      obtain ⟨hp119, H⟩ := ite_only H
      obtain ⟨ad120, rfl⟩ := (Rd.of_own (hw.up 5)).some hp119.1 hp119.2
      refine d_run hs (op := (Op.indexAddr 23 (Operand.tmp 89) (Operand.const (Value.int IntKind.i64 0)))) (ty := 0) (dst := some 90) (g := none) (by kernel_rfl) (by kernel_rfl) (by kernel_rfl) (fun wx hbx => (x_idx (T := 3) (sz := 1) (a := ad120) (n := t38.Sites.length) (cap := cc43) (k := .i64) (i := (0 : Int)) (by kernel_rfl) (by kernel_rfl) (by kernel_rfl) (by kernel_rfl) hp119.1 hp119.2)) [8, 9, 90] (L' := [(8, .pointer (some (⟨g27, 0, none⟩ : Addr))), (9, .pointer (some (⟨g51, 0, none⟩ : Addr))), (90, .pointer (some (ad120.add (((0 : Int) : Int).toNat * 1))))]) (by kernel_rfl) ?_
      clear hs; intro a hs
      refine d_run hs (op := (Op.load 3 (Operand.tmp 90))) (ty := 3) (dst := some 91) (g := none) (by kernel_rfl) (by kernel_rfl) (by kernel_rfl) (fun wx hbx => (x_ld (E := (eI .i64)) (off := 0) (p := ad120.add (((0 : Int) : Int).toNat * 1)) (v := .int .i64 (ix (eI .i64).d t38.Sites (0 : Int))) (Rd.bn (Rd.of_own (hw.up 5)) hbx) hp119.1 hp119.2 (by kernel_rfl) rfl (by kernel_rfl) (by kernel_rfl))) [8, 9, 91] (L' := [(8, .pointer (some (⟨g27, 0, none⟩ : Addr))), (9, .pointer (some (⟨g51, 0, none⟩ : Addr))), (91, .int .i64 (ix (eI .i64).d t38.Sites (0 : Int)))]) (by kernel_rfl) ?_
      clear hs; intro a hs
      refine c_pvs [5] [6] [8, 9, 91, 93] hs (L' := [(8, .pointer (some (⟨g27, 0, none⟩ : Addr))), (9, .pointer (some (⟨g51, 0, none⟩ : Addr))), (91, .int .i64 (ix (eI .i64).d t38.Sites (0 : Int))), (93, .pointer (some (((⟨g51, 0, none⟩ : Addr) : Addr).add 1)))]) (by kernel_rfl) ?_ (by kernel_rfl)
      clear hs; intro a hs
      refine d_run hs (op := (Op.load 23 (Operand.tmp 93))) (ty := 23) (dst := some 94) (g := none) (by kernel_rfl) (by kernel_rfl) (by kernel_rfl) (fun wx hbx => (x_bldD (g := g51) (o := 1) (p := ((⟨g51, 0, none⟩ : Addr) : Addr).add 1) (v := .slice (some ad120) t38.Sites.length cc43) (hw.up 0) hbx (by kernel_rfl) rfl (by kernel_rfl) (by kernel_rfl))) [8, 9, 91, 94] (L' := [(8, .pointer (some (⟨g27, 0, none⟩ : Addr))), (9, .pointer (some (⟨g51, 0, none⟩ : Addr))), (91, .int .i64 (ix (eI .i64).d t38.Sites (0 : Int))), (94, .slice (some ad120) t38.Sites.length cc43)]) (by kernel_rfl) ?_
      clear hs; intro a hs
      refine c_end ?_
      intro wq hbq
      replace hw := hw.behind hbq
      have hbc := Below.refl wq.heap.size wq
      obtain ⟨Aa121, cc122, wd123, hx124, hwn⟩ := n_lit (P := Tryd.prog) (t := 23) (ty := 23) (T := 3) (len := 1) (parts := #[(0, (Operand.tmp 91))]) (z := .int .i64 0) (bytes := 8) (cells := #[.int .i64 (ix (eI .i64).d t38.Sites (0 : Int))]) hs (nil_of hw) (eI .i64) ([(ix (eI .i64).d t38.Sites (0 : Int))] : List Int) (by kernel_rfl) (by kernel_rfl) (by kernel_rfl) (by kernel_rfl) (by kernel_rfl) (by kernel_rfl) (by kernel_rfl)
      replace hbc := hwn.below
      replace hw := hw.call hwn
      clear hwn
      refine p_run hs (op := (Op.buildSlice 23 1 #[(0, (Operand.tmp 91))])) (ty := 23) (dst := some 92) (g := none) (by kernel_rfl) (by kernel_rfl) (by kernel_rfl) hx124 [8, 9, 92, 94] (L' := [(8, .pointer (some (⟨g27, 0, none⟩ : Addr))), (9, .pointer (some (⟨g51, 0, none⟩ : Addr))), (92, .slice Aa121 ([(ix (eI .i64).d t38.Sites (0 : Int))] : List Int).length cc122), (94, .slice (some ad120) t38.Sites.length cc43)]) (by kernel_rfl) ?_
      clear hs; intro a hs
      refine c_done ⟨.inr (bn_of hbq hbc), ?_⟩
      clear hbc hbq
      refine d_seg ?_
      refine c_end ?_
      intro wq hbq
      replace hw := hw.behind hbq
      obtain ⟨hp126, H⟩ := ite_only H
      have hsrc131 : Src Tryd.prog (eI .i64).sz 23 (.slice (some ad120) t38.Sites.length cc43) t38.Sites.length (t38.Sites.flatMap (eI .i64).enc) _ := (Src.of_rd (E := (eI .i64)) (e' := 3) (by kernel_rfl) (Rd.of_own (hw.up 6)))
      obtain ⟨Aa127, cc128, wd129, hx130, hw⟩ := x_append (P := Tryd.prog) (t := 23) (tx := 23) (ty := 23) (x := (Operand.tmp 92)) (y := (Operand.tmp 94)) (z := .int .i64 0) (bytes := 8) (l2 := t38.Sites) hs hw (by kernel_rfl) (by kernel_rfl) (by kernel_rfl) (by kernel_rfl) (by kernel_rfl) hsrc131 (by omega) (by omega)
      refine p_run hs (op := (Op.call { callee := (Callee.builtin Builtin.append), args := #[(Operand.tmp 92), (Operand.tmp 94)], argTypes := #[23, 23] })) (ty := 23) (dst := some 95) (g := none) (by kernel_rfl) (by kernel_rfl) (by kernel_rfl) hx130 [8, 9, 95] (L' := [(8, .pointer (some (⟨g27, 0, none⟩ : Addr))), (9, .pointer (some (⟨g51, 0, none⟩ : Addr))), (95, .slice Aa127 (([(ix (eI .i64).d t38.Sites (0 : Int))] : List Int) ++ t38.Sites).length cc128)]) (by kernel_rfl) ?_
      clear hs; intro a hs
      refine c_done ⟨.inl (by kernel_rfl), ?_⟩
      clear hbq
      refine d_seg0 ?_
      refine c_pvs [8] [] [8, 9, 95, 96] hs (L' := [(8, .pointer (some (⟨g27, 0, none⟩ : Addr))), (9, .pointer (some (⟨g51, 0, none⟩ : Addr))), (95, .slice Aa127 (([(ix (eI .i64).d t38.Sites (0 : Int))] : List Int) ++ t38.Sites).length cc128), (96, .pointer (some (((⟨g51, 0, none⟩ : Addr) : Addr).add 1)))]) (by kernel_rfl) ?_ (by kernel_rfl)
      clear hs; intro a hs
      refine c_end ?_
      intro wq hbq
      replace hw := hw.behind hbq
      replace hw := hw.up 1
      obtain ⟨wd132, hx133, hw⟩ := x_bput (P := Tryd.prog) (ty := 0) (t := 23) (y := (Operand.tmp 96)) (z := (Operand.tmp 95)) (o := 1) (p := ((⟨g51, 0, none⟩ : Addr) : Addr).add 1) (v := .slice Aa127 (([(ix (eI .i64).d t38.Sites (0 : Int))] : List Int) ++ t38.Sites).length cc128) (vs := [.slice Aa127 (([(ix (eI .i64).d t38.Sites (0 : Int))] : List Int) ++ t38.Sites).length cc128]) (cs' := [.slice Aa40 t38.Words.length cc41, .slice Aa127 (([(ix (eI .i64).d t38.Sites (0 : Int))] : List Int) ++ t38.Sites).length cc128, .slice Aa44 t38.Syms.length cc45]) hs hw (by kernel_rfl) rfl (by kernel_rfl) rfl (by kernel_rfl) (by kernel_rfl) (by simp [Value.oneCell']) rfl
      refine p_unit hs (op := (Op.store 23 (Operand.tmp 96) (Operand.tmp 95))) (ty := 0) (dst := none) (g := none) (by kernel_rfl) (by kernel_rfl) (by kernel_rfl) hx133 [8, 9] (L' := [(8, .pointer (some (⟨g27, 0, none⟩ : Addr))), (9, .pointer (some (⟨g51, 0, none⟩ : Addr)))]) (by kernel_rfl) ?_
      clear hs; intro a hs
      refine c_done ⟨.inl (by kernel_rfl), ?_⟩
      clear hbq
      refine d_last ?_
      refine c_end ?_
      intro wq hbq
      replace hw := hw.behind hbq
      refine hK118 _ _ ?_
      refine go_region ?_
      refine go_pvs 0 1 [8, 9, 11] hs (L' := [(8, .pointer (some (⟨g27, 0, none⟩ : Addr))), (9, .pointer (some (⟨g51, 0, none⟩ : Addr))), (11, .int .i64 7)]) (by kernel_rfl) ?_ rfl
      clear hs; intro a hs
      refine go_end (by kernel_rfl) ?_
      refine ib_norm ?_
      replace hw := hw.up 1
      replace hw := hw.up 15
      replace hw := hw.up 15
      replace hw := hw.up 15
      replace hw := hw.up 15
      replace hw := hw.up 15
      replace hw := hw.up 15
      replace hw := hw.up 15
      replace hw := hw.up 15
      replace hw := hw.up 15
      replace hw := hw.up 14
      replace hw := hw.up 14
      replace hw := hw.up 14
      replace hw := hw.up 14
      replace hw := hw.up 14
      replace hw := hw.only 15
      exact hJ3 Aa40 cc41 t38.Words Aa44 cc45 t38.Syms Aa127 cc128 (([(ix (eI .i64).d t38.Sites (0 : Int))] : List Int) ++ t38.Sites) 7 _ _ (hs.keep [8, 9, 11] (by kernel_rfl)) hw H
     ·replace H := ite_f H (of_decide_eq_false hc)
      have hb134 := hc
      rw [hb134] at hs
      refine wp_skip ?_
      refine ib_norm ?_
      replace hw := hw.up 5
      replace hw := hw.up 14
      replace hw := hw.up 14
      replace hw := hw.up 14
      replace hw := hw.up 14
      replace hw := hw.up 14
      replace hw := hw.up 14
      replace hw := hw.up 14
      replace hw := hw.up 14
      replace hw := hw.up 14
      replace hw := hw.up 14
      replace hw := hw.up 14
      replace hw := hw.up 14
      replace hw := hw.up 14
      replace hw := hw.up 14
      replace hw := hw.only 15
      exact hJ3 Aa40 cc41 t38.Words Aa44 cc45 t38.Syms Aa42 cc43 t38.Sites 0 _ _ (hs.keep [8, 9, 11] (by kernel_rfl)) hw H
    ·replace H := ite_f H (beq_eq_false_iff_ne.1 hc)
     have hb135 := hc
     rw [hb135] at hs
     refine go_seq_k fun K136 hK136 => ?_
     refine go_region ?_
     refine go_pvs 0 2 [2, 8, 9, 10, 11, 44, 97] hs (L' := [(2, .int .u8 a2), (8, .pointer (some (⟨g27, 0, none⟩ : Addr))), (9, .pointer (some (⟨g51, 0, none⟩ : Addr))), (10, .int .i64 y79), (11, .int .i64 0), (44, .int .u8 (a1.tmod 7)), (97, .bool ((a1.tmod 7) == 3))]) (by kernel_rfl) ?_ rfl
     clear hs; intro a hs
     refine go_end (by kernel_rfl) ?_
     refine hK136 _ _ ?_
     refine go_cond hs ((a1.tmod 7) == 3) (by kernel_rfl) (fun hc => ?_) (fun hc => ?_)
     ·replace H := ite_t H (beq_iff_eq.1 hc)
      have hb137 := hc
      rw [hb137] at hs
      refine go_seq_k fun K138 hK138 => ?_
      refine go_region ?_
      refine go_pvs 0 1 [8, 9, 11, 99] hs (L' := [(8, .pointer (some (⟨g27, 0, none⟩ : Addr))), (9, .pointer (some (⟨g51, 0, none⟩ : Addr))), (11, .int .i64 0), (99, .pointer (some (((⟨g51, 0, none⟩ : Addr) : Addr).add 2)))]) (by kernel_rfl) ?_ rfl
      clear hs; intro a hs
      refine go_run hs (op := (Op.load 24 (Operand.tmp 99))) (ty := 24) (dst := some 100) (g := none) (by kernel_rfl) (by kernel_rfl) (by kernel_rfl) (x_bld (g := g51) (o := 2) (p := ((⟨g51, 0, none⟩ : Addr) : Addr).add 2) (v := .slice Aa44 t38.Syms.length cc45) (hw.up 0) (by kernel_rfl) rfl (by kernel_rfl) (by kernel_rfl)) [8, 9, 11, 100] (L' := [(8, .pointer (some (⟨g27, 0, none⟩ : Addr))), (9, .pointer (some (⟨g51, 0, none⟩ : Addr))), (11, .int .i64 0), (100, .slice Aa44 t38.Syms.length cc45)]) (by kernel_rfl) ?_
      clear hs; intro a hs
      refine go_pvs 2 4 [8, 9, 11, 102] hs (L' := [(8, .pointer (some (⟨g27, 0, none⟩ : Addr))), (9, .pointer (some (⟨g51, 0, none⟩ : Addr))), (11, .int .i64 0), (102, .bool (decide ((t38.Syms.length : Int) > 0)))]) (by kernel_rfl) ?_ rfl
      clear hs; intro a hs
      refine go_end (by kernel_rfl) ?_
      refine hK138 _ _ ?_
      refine go_cond hs (decide ((t38.Syms.length : Int) > 0)) (by kernel_rfl) (fun hc => ?_) (fun hc => ?_)
      ·replace H := ite_t H (of_decide_eq_true hc)
       have hb139 := hc
       rw [hb139] at hs
       refine go_seq_k fun K140 hK140 => ?_
       refine d_region [11, 13] [(true, [0, 1, 2, 3, 4, 5, 6, 7, 8, 9], 10), (true, [], 11), (false, [12], 13)] [] (by kernel_rfl) (by kernel_rfl) (fun c a d v w h => by cases d <;> exact h) ?_
       refine d_seg ?_
       refine c_pvs [0] [1, 2, 3, 4, 5, 6, 7, 8, 9] [8, 9, 103] hs (L' := [(8, .pointer (some (⟨g27, 0, none⟩ : Addr))), (9, .pointer (some (⟨g51, 0, none⟩ : Addr))), (103, .pointer (some (((⟨g51, 0, none⟩ : Addr) : Addr).add 2)))]) (by kernel_rfl) ?_ (by kernel_rfl)
       clear hs; intro a hs
       refine d_run hs (op := (Op.load 24 (Operand.tmp 103))) (ty := 24) (dst := some 104) (g := none) (by kernel_rfl) (by kernel_rfl) (by kernel_rfl) (fun wx hbx => (x_bldD (g := g51) (o := 2) (p := ((⟨g51, 0, none⟩ : Addr) : Addr).add 2) (v := .slice Aa44 t38.Syms.length cc45) (hw.up 0) hbx (by kernel_rfl) rfl (by kernel_rfl) (by kernel_rfl))) [8, 9, 104] (L' := [(8, .pointer (some (⟨g27, 0, none⟩ : Addr))), (9, .pointer (some (⟨g51, 0, none⟩ : Addr))), (104, .slice Aa44 t38.Syms.length cc45)]) (by kernel_rfl) ?_
       clear hs; intro a hs
       refine c_pvs [2] [3, 4, 5, 6, 7, 8, 9] [8, 9, 104, 105] hs (L' := [(8, .pointer (some (⟨g27, 0, none⟩ : Addr))), (9, .pointer (some (⟨g51, 0, none⟩ : Addr))), (104, .slice Aa44 t38.Syms.length cc45), (105, .pointer (some (((⟨g51, 0, none⟩ : Addr) : Addr).add 2)))]) (by kernel_rfl) ?_ (by kernel_rfl)
       clear hs; intro a hs
       refine d_run hs (op := (Op.load 24 (Operand.tmp 105))) (ty := 24) (dst := some 106) (g := none) (by kernel_rfl) (by kernel_rfl) (by kernel_rfl) (fun wx hbx => (x_bldD (g := g51) (o := 2) (p := ((⟨g51, 0, none⟩ : Addr) : Addr).add 2) (v := .slice Aa44 t38.Syms.length cc45) (hw.up 0) hbx (by kernel_rfl) rfl (by kernel_rfl) (by kernel_rfl))) [8, 9, 104, 106] (L' := [(8, .pointer (some (⟨g27, 0, none⟩ : Addr))), (9, .pointer (some (⟨g51, 0, none⟩ : Addr))), (104, .slice Aa44 t38.Syms.length cc45), (106, .slice Aa44 t38.Syms.length cc45)]) (by kernel_rfl) ?_
       clear hs; intro a hs
       refine c_pvs [4] [5, 6, 7, 8, 9] [8, 9, 104, 106, 107] hs (L' := [(8, .pointer (some (⟨g27, 0, none⟩ : Addr))), (9, .pointer (some (⟨g51, 0, none⟩ : Addr))), (104, .slice Aa44 t38.Syms.length cc45), (106, .slice Aa44 t38.Syms.length cc45), (107, .pointer (some (((⟨g51, 0, none⟩ : Addr) : Addr).add 2)))]) (by kernel_rfl) ?_ (by kernel_rfl)
       clear hs; intro a hs
       refine d_run hs (op := (Op.load 24 (Operand.tmp 107))) (ty := 24) (dst := some 108) (g := none) (by kernel_rfl) (by kernel_rfl) (by kernel_rfl) (fun wx hbx => (x_bldD (g := g51) (o := 2) (p := ((⟨g51, 0, none⟩ : Addr) : Addr).add 2) (v := .slice Aa44 t38.Syms.length cc45) (hw.up 0) hbx (by kernel_rfl) rfl (by kernel_rfl) (by kernel_rfl))) [8, 9, 104, 106, 108] (L' := [(8, .pointer (some (⟨g27, 0, none⟩ : Addr))), (9, .pointer (some (⟨g51, 0, none⟩ : Addr))), (104, .slice Aa44 t38.Syms.length cc45), (106, .slice Aa44 t38.Syms.length cc45), (108, .slice Aa44 t38.Syms.length cc45)]) (by kernel_rfl) ?_
       clear hs; intro a hs
       refine c_pvs [6, 7] [8, 9] [8, 9, 104, 106, 110] hs (L' := [(8, .pointer (some (⟨g27, 0, none⟩ : Addr))), (9, .pointer (some (⟨g51, 0, none⟩ : Addr))), (104, .slice Aa44 t38.Syms.length cc45), (106, .slice Aa44 t38.Syms.length cc45), (110, .int .i64 (w64 ((t38.Syms.length : Int) - 1)))]) (by kernel_rfl) ?_ (by kernel_rfl)
       clear hs; intro a hs
       obtain ⟨hp141, H⟩ := ite_only H
       obtain ⟨ad142, rfl⟩ := (Rd.of_own (hw.up 6)).some hp141.1 hp141.2
       refine d_run hs (op := (Op.indexAddr 24 (Operand.tmp 106) (Operand.tmp 110))) (ty := 0) (dst := some 111) (g := none) (by kernel_rfl) (by kernel_rfl) (by kernel_rfl) (fun wx hbx => (x_idx (T := 39) (sz := 2) (a := ad142) (n := t38.Syms.length) (cap := cc45) (k := .i64) (i := (w64 ((t38.Syms.length : Int) - 1))) (by kernel_rfl) (by kernel_rfl) (by kernel_rfl) (by kernel_rfl) hp141.1 hp141.2)) [8, 9, 104, 111] (L' := [(8, .pointer (some (⟨g27, 0, none⟩ : Addr))), (9, .pointer (some (⟨g51, 0, none⟩ : Addr))), (104, .slice (some ad142) t38.Syms.length cc45), (111, .pointer (some (ad142.add ((w64 ((t38.Syms.length : Int) - 1)).toNat * 2))))]) (by kernel_rfl) ?_
       clear hs; intro a hs
       refine d_run hs (op := (Op.load 39 (Operand.tmp 111))) (ty := 39) (dst := some 112) (g := none) (by kernel_rfl) (by kernel_rfl) (by kernel_rfl) (fun wx hbx => (x_lds (E := eSapi_Sym) (off := 0) (p := ad142.add ((w64 ((t38.Syms.length : Int) - 1)).toNat * 2)) (cs := [.string ((ix eSapi_Sym.d t38.Syms (w64 ((t38.Syms.length : Int) - 1))).Name), .int .i64 ((ix eSapi_Sym.d t38.Syms (w64 ((t38.Syms.length : Int) - 1))).At)]) (Rd.bn (Rd.of_own (hw.up 6)) hbx) hp141.1 hp141.2 (by kernel_rfl) rfl (by kernel_rfl) (by kernel_rfl) (by kernel_rfl))) [8, 9, 104, 112] (L' := [(8, .pointer (some (⟨g27, 0, none⟩ : Addr))), (9, .pointer (some (⟨g51, 0, none⟩ : Addr))), (104, .slice (some ad142) t38.Syms.length cc45), (112, .agg #[.string ((ix eSapi_Sym.d t38.Syms (w64 ((t38.Syms.length : Int) - 1))).Name), .int .i64 ((ix eSapi_Sym.d t38.Syms (w64 ((t38.Syms.length : Int) - 1))).At)])]) (by kernel_rfl) ?_
       clear hs; intro a hs
       refine c_end ?_
       intro wq hbq
       replace hw := hw.behind hbq
       have hbc := Below.refl wq.heap.size wq
       obtain ⟨Aa143, cc144, wd145, hx146, hwn⟩ := n_lit (P := Tryd.prog) (t := 24) (ty := 24) (T := 39) (len := 1) (parts := #[(0, (Operand.tmp 112))]) (z := .agg #[.string (⟨#[]⟩ : ByteArray), .int .i64 0]) (bytes := 24) (cells := #[.string ((ix eSapi_Sym.d t38.Syms (w64 ((t38.Syms.length : Int) - 1))).Name), .int .i64 ((ix eSapi_Sym.d t38.Syms (w64 ((t38.Syms.length : Int) - 1))).At)]) hs (nil_of hw) eSapi_Sym ([(ix eSapi_Sym.d t38.Syms (w64 ((t38.Syms.length : Int) - 1)))] : List Sapi_Sym) (by kernel_rfl) (by kernel_rfl) (by kernel_rfl) (by kernel_rfl) (by kernel_rfl) (by kernel_rfl) (by kernel_rfl)
       replace hbc := hwn.below
       replace hw := hw.call hwn
       clear hwn
       refine p_run hs (op := (Op.buildSlice 24 1 #[(0, (Operand.tmp 112))])) (ty := 24) (dst := some 113) (g := none) (by kernel_rfl) (by kernel_rfl) (by kernel_rfl) hx146 [8, 9, 104, 113] (L' := [(8, .pointer (some (⟨g27, 0, none⟩ : Addr))), (9, .pointer (some (⟨g51, 0, none⟩ : Addr))), (104, .slice (some ad142) t38.Syms.length cc45), (113, .slice Aa143 ([(ix eSapi_Sym.d t38.Syms (w64 ((t38.Syms.length : Int) - 1)))] : List Sapi_Sym).length cc144)]) (by kernel_rfl) ?_
       clear hs; intro a hs
       refine c_done ⟨.inr (bn_of hbq hbc), ?_⟩
       clear hbc hbq
       refine d_seg ?_
       refine c_end ?_
       intro wq hbq
       replace hw := hw.behind hbq
       obtain ⟨hp148, H⟩ := ite_only H
       have hsrc153 : Src Tryd.prog eSapi_Sym.sz 24 (.slice Aa143 ([(ix eSapi_Sym.d t38.Syms (w64 ((t38.Syms.length : Int) - 1)))] : List Sapi_Sym).length cc144) ([(ix eSapi_Sym.d t38.Syms (w64 ((t38.Syms.length : Int) - 1)))] : List Sapi_Sym).length (([(ix eSapi_Sym.d t38.Syms (w64 ((t38.Syms.length : Int) - 1)))] : List Sapi_Sym).flatMap eSapi_Sym.enc) _ := (Src.of_rd (E := eSapi_Sym) (e' := 39) (by kernel_rfl) (Rd.of_own (hw.up 0)))
       replace hw := hw.up 7
       obtain ⟨Aa149, cc150, wd151, hx152, hw⟩ := x_append (P := Tryd.prog) (t := 24) (tx := 24) (ty := 24) (x := (Operand.tmp 104)) (y := (Operand.tmp 113)) (z := .agg #[.string (⟨#[]⟩ : ByteArray), .int .i64 0]) (bytes := 24) (l2 := ([(ix eSapi_Sym.d t38.Syms (w64 ((t38.Syms.length : Int) - 1)))] : List Sapi_Sym)) hs hw (by kernel_rfl) (by kernel_rfl) (by kernel_rfl) (by kernel_rfl) (by kernel_rfl) hsrc153 (by omega) (by omega)
       refine p_run hs (op := (Op.call { callee := (Callee.builtin Builtin.append), args := #[(Operand.tmp 104), (Operand.tmp 113)], argTypes := #[24, 24] })) (ty := 24) (dst := some 114) (g := none) (by kernel_rfl) (by kernel_rfl) (by kernel_rfl) hx152 [8, 9, 114] (L' := [(8, .pointer (some (⟨g27, 0, none⟩ : Addr))), (9, .pointer (some (⟨g51, 0, none⟩ : Addr))), (114, .slice Aa149 (t38.Syms ++ ([(ix eSapi_Sym.d t38.Syms (w64 ((t38.Syms.length : Int) - 1)))] : List Sapi_Sym)).length cc150)]) (by kernel_rfl) ?_
       clear hs; intro a hs
       refine c_done ⟨.inl (by kernel_rfl), ?_⟩
       clear hbq
       refine d_seg0 ?_
       refine c_pvs [12] [] [8, 9, 114, 115] hs (L' := [(8, .pointer (some (⟨g27, 0, none⟩ : Addr))), (9, .pointer (some (⟨g51, 0, none⟩ : Addr))), (114, .slice Aa149 (t38.Syms ++ ([(ix eSapi_Sym.d t38.Syms (w64 ((t38.Syms.length : Int) - 1)))] : List Sapi_Sym)).length cc150), (115, .pointer (some (((⟨g51, 0, none⟩ : Addr) : Addr).add 2)))]) (by kernel_rfl) ?_ (by kernel_rfl)
       clear hs; intro a hs
       refine c_end ?_
       intro wq hbq
       replace hw := hw.behind hbq
       replace hw := hw.up 2
       obtain ⟨wd154, hx155, hw⟩ := x_bput (P := Tryd.prog) (ty := 0) (t := 24) (y := (Operand.tmp 115)) (z := (Operand.tmp 114)) (o := 2) (p := ((⟨g51, 0, none⟩ : Addr) : Addr).add 2) (v := .slice Aa149 (t38.Syms ++ ([(ix eSapi_Sym.d t38.Syms (w64 ((t38.Syms.length : Int) - 1)))] : List Sapi_Sym)).length cc150) (vs := [.slice Aa149 (t38.Syms ++ ([(ix eSapi_Sym.d t38.Syms (w64 ((t38.Syms.length : Int) - 1)))] : List Sapi_Sym)).length cc150]) (cs' := [.slice Aa40 t38.Words.length cc41, .slice Aa42 t38.Sites.length cc43, .slice Aa149 (t38.Syms ++ ([(ix eSapi_Sym.d t38.Syms (w64 ((t38.Syms.length : Int) - 1)))] : List Sapi_Sym)).length cc150]) hs hw (by kernel_rfl) rfl (by kernel_rfl) rfl (by kernel_rfl) (by kernel_rfl) (by simp [Value.oneCell']) rfl
       refine p_unit hs (op := (Op.store 24 (Operand.tmp 115) (Operand.tmp 114))) (ty := 0) (dst := none) (g := none) (by kernel_rfl) (by kernel_rfl) (by kernel_rfl) hx155 [8, 9] (L' := [(8, .pointer (some (⟨g27, 0, none⟩ : Addr))), (9, .pointer (some (⟨g51, 0, none⟩ : Addr)))]) (by kernel_rfl) ?_
       clear hs; intro a hs
       refine c_done ⟨.inl (by kernel_rfl), ?_⟩
       clear hbq
       refine d_last ?_
       refine c_end ?_
       intro wq hbq
       replace hw := hw.behind hbq
       refine hK140 _ _ ?_
       refine go_region ?_
       refine go_pvs 0 1 [8, 9, 11] hs (L' := [(8, .pointer (some (⟨g27, 0, none⟩ : Addr))), (9, .pointer (some (⟨g51, 0, none⟩ : Addr))), (11, .int .i64 9)]) (by kernel_rfl) ?_ rfl
       clear hs; intro a hs
       refine go_end (by kernel_rfl) ?_
       refine ib_norm ?_
       replace hw := hw.up 7
       replace hw := hw.up 15
       replace hw := hw.up 15
       replace hw := hw.up 15
       replace hw := hw.up 15
       replace hw := hw.up 15
       replace hw := hw.up 15
       replace hw := hw.up 15
       replace hw := hw.up 15
       replace hw := hw.up 10
       replace hw := hw.up 15
       replace hw := hw.up 15
       replace hw := hw.up 15
       replace hw := hw.up 15
       replace hw := hw.up 14
       replace hw := hw.only 15
       exact hJ3 Aa40 cc41 t38.Words Aa149 cc150 (t38.Syms ++ ([(ix eSapi_Sym.d t38.Syms (w64 ((t38.Syms.length : Int) - 1)))] : List Sapi_Sym)) Aa42 cc43 t38.Sites 9 _ _ (hs.keep [8, 9, 11] (by kernel_rfl)) hw H
      ·replace H := ite_f H (of_decide_eq_false hc)
       have hb156 := hc
       rw [hb156] at hs
       refine wp_skip ?_
       refine ib_norm ?_
       replace hw := hw.up 5
       replace hw := hw.up 14
       replace hw := hw.up 14
       replace hw := hw.up 14
       replace hw := hw.up 14
       replace hw := hw.up 14
       replace hw := hw.up 14
       replace hw := hw.up 14
       replace hw := hw.up 14
       replace hw := hw.up 14
       replace hw := hw.up 14
       replace hw := hw.up 14
       replace hw := hw.up 14
       replace hw := hw.up 14
       replace hw := hw.up 14
       replace hw := hw.only 15
       exact hJ3 Aa40 cc41 t38.Words Aa44 cc45 t38.Syms Aa42 cc43 t38.Sites 0 _ _ (hs.keep [8, 9, 11] (by kernel_rfl)) hw H
     ·replace H := ite_f H (beq_eq_false_iff_ne.1 hc)
      have hb157 := hc
      rw [hb157] at hs
      refine go_seq_k fun K158 hK158 => ?_
      refine go_region ?_
      refine go_pvs 0 2 [2, 8, 9, 10, 11, 44, 116] hs (L' := [(2, .int .u8 a2), (8, .pointer (some (⟨g27, 0, none⟩ : Addr))), (9, .pointer (some (⟨g51, 0, none⟩ : Addr))), (10, .int .i64 y79), (11, .int .i64 0), (44, .int .u8 (a1.tmod 7)), (116, .bool ((a1.tmod 7) == 4))]) (by kernel_rfl) ?_ rfl
      clear hs; intro a hs
      refine go_end (by kernel_rfl) ?_
      refine hK158 _ _ ?_
      refine go_cond hs ((a1.tmod 7) == 4) (by kernel_rfl) (fun hc => ?_) (fun hc => ?_)
      ·replace H := ite_t H (beq_iff_eq.1 hc)
       have hb159 := hc
       rw [hb159] at hs
       refine go_seq_k fun K160 hK160 => ?_
       refine go_region ?_
       refine go_pvs 0 1 [8, 9, 10, 118] hs (L' := [(8, .pointer (some (⟨g27, 0, none⟩ : Addr))), (9, .pointer (some (⟨g51, 0, none⟩ : Addr))), (10, .int .i64 y79), (118, .pointer (some (((⟨g51, 0, none⟩ : Addr) : Addr).add 2)))]) (by kernel_rfl) ?_ rfl
       clear hs; intro a hs
       refine go_run hs (op := (Op.load 24 (Operand.tmp 118))) (ty := 24) (dst := some 119) (g := none) (by kernel_rfl) (by kernel_rfl) (by kernel_rfl) (x_bld (g := g51) (o := 2) (p := ((⟨g51, 0, none⟩ : Addr) : Addr).add 2) (v := .slice Aa44 t38.Syms.length cc45) (hw.up 0) (by kernel_rfl) rfl (by kernel_rfl) (by kernel_rfl)) [8, 9, 10, 119] (L' := [(8, .pointer (some (⟨g27, 0, none⟩ : Addr))), (9, .pointer (some (⟨g51, 0, none⟩ : Addr))), (10, .int .i64 y79), (119, .slice Aa44 t38.Syms.length cc45)]) (by kernel_rfl) ?_
       clear hs; intro a hs
       refine go_pvs 2 6 [8, 9, 119, 123] hs (L' := [(8, .pointer (some (⟨g27, 0, none⟩ : Addr))), (9, .pointer (some (⟨g51, 0, none⟩ : Addr))), (119, .slice Aa44 t38.Syms.length cc45), (123, .agg #[.string (⟨#[122, 122, 95]⟩ : ByteArray), .int .i64 (w64 ((w64 (4 * y79)) + 4))])]) (by kernel_rfl) ?_ rfl
       clear hs; intro a hs
       obtain ⟨Aa161, cc162, wd163, hx164, hw⟩ := n_lit (P := Tryd.prog) (t := 24) (ty := 24) (T := 39) (len := 1) (parts := #[(0, (Operand.tmp 123))]) (z := .agg #[.string (⟨#[]⟩ : ByteArray), .int .i64 0]) (bytes := 24) (cells := #[.string (⟨#[122, 122, 95]⟩ : ByteArray), .int .i64 (w64 ((w64 (4 * y79)) + 4))]) hs hw eSapi_Sym ([(⟨(⟨#[122, 122, 95]⟩ : ByteArray), w64 ((w64 (4 * y79)) + 4)⟩ : Sapi_Sym)] : List Sapi_Sym) (by kernel_rfl) (by kernel_rfl) (by kernel_rfl) (by kernel_rfl) (by kernel_rfl) (by kernel_rfl) (by kernel_rfl)
       refine go_run hs (op := (Op.buildSlice 24 1 #[(0, (Operand.tmp 123))])) (ty := 24) (dst := some 124) (g := none) (by kernel_rfl) (by kernel_rfl) (by kernel_rfl) hx164 [8, 9, 119, 124] (L' := [(8, .pointer (some (⟨g27, 0, none⟩ : Addr))), (9, .pointer (some (⟨g51, 0, none⟩ : Addr))), (119, .slice Aa44 t38.Syms.length cc45), (124, .slice Aa161 ([(⟨(⟨#[122, 122, 95]⟩ : ByteArray), w64 ((w64 (4 * y79)) + 4)⟩ : Sapi_Sym)] : List Sapi_Sym).length cc162)]) (by kernel_rfl) ?_
       clear hs; intro a hs
       obtain ⟨hp166, H⟩ := ite_only H
       have hsrc171 : Src Tryd.prog eSapi_Sym.sz 24 (.slice Aa161 ([(⟨(⟨#[122, 122, 95]⟩ : ByteArray), w64 ((w64 (4 * y79)) + 4)⟩ : Sapi_Sym)] : List Sapi_Sym).length cc162) ([(⟨(⟨#[122, 122, 95]⟩ : ByteArray), w64 ((w64 (4 * y79)) + 4)⟩ : Sapi_Sym)] : List Sapi_Sym).length (([(⟨(⟨#[122, 122, 95]⟩ : ByteArray), w64 ((w64 (4 * y79)) + 4)⟩ : Sapi_Sym)] : List Sapi_Sym).flatMap eSapi_Sym.enc) _ := (Src.of_rd (E := eSapi_Sym) (e' := 39) (by kernel_rfl) (Rd.of_own (hw.up 0)))
       replace hw := hw.up 7
       obtain ⟨Aa167, cc168, wd169, hx170, hw⟩ := x_append (P := Tryd.prog) (t := 24) (tx := 24) (ty := 24) (x := (Operand.tmp 119)) (y := (Operand.tmp 124)) (z := .agg #[.string (⟨#[]⟩ : ByteArray), .int .i64 0]) (bytes := 24) (l2 := ([(⟨(⟨#[122, 122, 95]⟩ : ByteArray), w64 ((w64 (4 * y79)) + 4)⟩ : Sapi_Sym)] : List Sapi_Sym)) hs hw (by kernel_rfl) (by kernel_rfl) (by kernel_rfl) (by kernel_rfl) (by kernel_rfl) hsrc171 (by omega) (by omega)
       refine go_run hs (op := (Op.call { callee := (Callee.builtin Builtin.append), args := #[(Operand.tmp 119), (Operand.tmp 124)], argTypes := #[24, 24] })) (ty := 24) (dst := some 125) (g := none) (by kernel_rfl) (by kernel_rfl) (by kernel_rfl) hx170 [8, 9, 125] (L' := [(8, .pointer (some (⟨g27, 0, none⟩ : Addr))), (9, .pointer (some (⟨g51, 0, none⟩ : Addr))), (125, .slice Aa167 (t38.Syms ++ ([(⟨(⟨#[122, 122, 95]⟩ : ByteArray), w64 ((w64 (4 * y79)) + 4)⟩ : Sapi_Sym)] : List Sapi_Sym)).length cc168)]) (by kernel_rfl) ?_
       clear hs; intro a hs
       refine go_pvs 8 9 [8, 9, 125, 126] hs (L' := [(8, .pointer (some (⟨g27, 0, none⟩ : Addr))), (9, .pointer (some (⟨g51, 0, none⟩ : Addr))), (125, .slice Aa167 (t38.Syms ++ ([(⟨(⟨#[122, 122, 95]⟩ : ByteArray), w64 ((w64 (4 * y79)) + 4)⟩ : Sapi_Sym)] : List Sapi_Sym)).length cc168), (126, .pointer (some (((⟨g51, 0, none⟩ : Addr) : Addr).add 2)))]) (by kernel_rfl) ?_ rfl
       clear hs; intro a hs
       replace hw := hw.up 2
       obtain ⟨wd172, hx173, hw⟩ := x_bput (P := Tryd.prog) (ty := 0) (t := 24) (y := (Operand.tmp 126)) (z := (Operand.tmp 125)) (o := 2) (p := ((⟨g51, 0, none⟩ : Addr) : Addr).add 2) (v := .slice Aa167 (t38.Syms ++ ([(⟨(⟨#[122, 122, 95]⟩ : ByteArray), w64 ((w64 (4 * y79)) + 4)⟩ : Sapi_Sym)] : List Sapi_Sym)).length cc168) (vs := [.slice Aa167 (t38.Syms ++ ([(⟨(⟨#[122, 122, 95]⟩ : ByteArray), w64 ((w64 (4 * y79)) + 4)⟩ : Sapi_Sym)] : List Sapi_Sym)).length cc168]) (cs' := [.slice Aa40 t38.Words.length cc41, .slice Aa42 t38.Sites.length cc43, .slice Aa167 (t38.Syms ++ ([(⟨(⟨#[122, 122, 95]⟩ : ByteArray), w64 ((w64 (4 * y79)) + 4)⟩ : Sapi_Sym)] : List Sapi_Sym)).length cc168]) hs hw (by kernel_rfl) rfl (by kernel_rfl) rfl (by kernel_rfl) (by kernel_rfl) (by simp [Value.oneCell']) rfl
       refine go_unit hs (op := (Op.store 24 (Operand.tmp 126) (Operand.tmp 125))) (ty := 0) (dst := none) (g := none) (by kernel_rfl) (by kernel_rfl) (by kernel_rfl) hx173 [8, 9] (L' := [(8, .pointer (some (⟨g27, 0, none⟩ : Addr))), (9, .pointer (some (⟨g51, 0, none⟩ : Addr)))]) (by kernel_rfl) ?_
       clear hs; intro a hs
       refine go_end (by kernel_rfl) ?_
       refine hK160 _ _ ?_
       refine go_region ?_
       refine go_pvs 0 1 [8, 9, 11] hs (L' := [(8, .pointer (some (⟨g27, 0, none⟩ : Addr))), (9, .pointer (some (⟨g51, 0, none⟩ : Addr))), (11, .int .i64 8)]) (by kernel_rfl) ?_ rfl
       clear hs; intro a hs
       refine go_end (by kernel_rfl) ?_
       refine ib_norm ?_
       replace hw := hw.up 7
       replace hw := hw.up 15
       replace hw := hw.up 15
       replace hw := hw.up 15
       replace hw := hw.up 15
       replace hw := hw.up 15
       replace hw := hw.up 15
       replace hw := hw.up 15
       replace hw := hw.up 15
       replace hw := hw.up 10
       replace hw := hw.up 15
       replace hw := hw.up 15
       replace hw := hw.up 15
       replace hw := hw.up 15
       replace hw := hw.up 14
       replace hw := hw.only 15
       exact hJ3 Aa40 cc41 t38.Words Aa167 cc168 (t38.Syms ++ ([(⟨(⟨#[122, 122, 95]⟩ : ByteArray), w64 ((w64 (4 * y79)) + 4)⟩ : Sapi_Sym)] : List Sapi_Sym)) Aa42 cc43 t38.Sites 8 _ _ (hs.keep [8, 9, 11] (by kernel_rfl)) hw H
      ·replace H := ite_f H (beq_eq_false_iff_ne.1 hc)
       have hb174 := hc
       rw [hb174] at hs
       refine go_seq_k fun K175 hK175 => ?_
       refine go_region ?_
       refine go_pvs 0 2 [2, 8, 9, 10, 11, 127] hs (L' := [(2, .int .u8 a2), (8, .pointer (some (⟨g27, 0, none⟩ : Addr))), (9, .pointer (some (⟨g51, 0, none⟩ : Addr))), (10, .int .i64 y79), (11, .int .i64 0), (127, .bool ((a1.tmod 7) == 5))]) (by kernel_rfl) ?_ rfl
       clear hs; intro a hs
       refine go_end (by kernel_rfl) ?_
       refine hK175 _ _ ?_
       refine go_cond hs ((a1.tmod 7) == 5) (by kernel_rfl) (fun hc => ?_) (fun hc => ?_)
       ·replace H := ite_t H (beq_iff_eq.1 hc)
        have hb176 := hc
        rw [hb176] at hs
        refine go_seq_k fun K177 hK177 => ?_
        refine go_region ?_
        refine go_pvs 0 1 [2, 8, 9, 11, 129] hs (L' := [(2, .int .u8 a2), (8, .pointer (some (⟨g27, 0, none⟩ : Addr))), (9, .pointer (some (⟨g51, 0, none⟩ : Addr))), (11, .int .i64 0), (129, .pointer (some (((⟨g51, 0, none⟩ : Addr) : Addr).add 2)))]) (by kernel_rfl) ?_ rfl
        clear hs; intro a hs
        refine go_run hs (op := (Op.load 24 (Operand.tmp 129))) (ty := 24) (dst := some 130) (g := none) (by kernel_rfl) (by kernel_rfl) (by kernel_rfl) (x_bld (g := g51) (o := 2) (p := ((⟨g51, 0, none⟩ : Addr) : Addr).add 2) (v := .slice Aa44 t38.Syms.length cc45) (hw.up 0) (by kernel_rfl) rfl (by kernel_rfl) (by kernel_rfl)) [2, 8, 9, 11, 130] (L' := [(2, .int .u8 a2), (8, .pointer (some (⟨g27, 0, none⟩ : Addr))), (9, .pointer (some (⟨g51, 0, none⟩ : Addr))), (11, .int .i64 0), (130, .slice Aa44 t38.Syms.length cc45)]) (by kernel_rfl) ?_
        clear hs; intro a hs
        refine go_pvs 2 4 [2, 8, 9, 11, 132] hs (L' := [(2, .int .u8 a2), (8, .pointer (some (⟨g27, 0, none⟩ : Addr))), (9, .pointer (some (⟨g51, 0, none⟩ : Addr))), (11, .int .i64 0), (132, .bool (decide ((t38.Syms.length : Int) > 0)))]) (by kernel_rfl) ?_ rfl
        clear hs; intro a hs
        refine go_end (by kernel_rfl) ?_
        refine hK177 _ _ ?_
        refine go_cond hs (decide ((t38.Syms.length : Int) > 0)) (by kernel_rfl) (fun hc => ?_) (fun hc => ?_)
        ·replace H := ite_t H (of_decide_eq_true hc)
         have hb178 := hc
         rw [hb178] at hs
         refine go_seq_k fun K179 hK179 => ?_
         refine d_region [10] [(true, [0, 1, 2, 3, 4, 5, 6, 7, 8, 9], 10)] [] (by kernel_rfl) (by kernel_rfl) (fun c a d v w h => by cases d <;> exact h) ?_
         refine d_seg ?_
         refine c_pvs [0] [1, 2, 3, 4, 5, 6, 7, 8, 9] [2, 8, 9, 133] hs (L' := [(2, .int .u8 a2), (8, .pointer (some (⟨g27, 0, none⟩ : Addr))), (9, .pointer (some (⟨g51, 0, none⟩ : Addr))), (133, .pointer (some (((⟨g51, 0, none⟩ : Addr) : Addr).add 2)))]) (by kernel_rfl) ?_ (by kernel_rfl)
         clear hs; intro a hs
         refine d_run hs (op := (Op.load 24 (Operand.tmp 133))) (ty := 24) (dst := some 134) (g := none) (by kernel_rfl) (by kernel_rfl) (by kernel_rfl) (fun wx hbx => (x_bldD (g := g51) (o := 2) (p := ((⟨g51, 0, none⟩ : Addr) : Addr).add 2) (v := .slice Aa44 t38.Syms.length cc45) (hw.up 0) hbx (by kernel_rfl) rfl (by kernel_rfl) (by kernel_rfl))) [2, 8, 9, 134] (L' := [(2, .int .u8 a2), (8, .pointer (some (⟨g27, 0, none⟩ : Addr))), (9, .pointer (some (⟨g51, 0, none⟩ : Addr))), (134, .slice Aa44 t38.Syms.length cc45)]) (by kernel_rfl) ?_
         clear hs; intro a hs
         refine c_pvs [2, 3, 4] [5, 6, 7, 8, 9] [8, 9, 134, 136, 137] hs (L' := [(8, .pointer (some (⟨g27, 0, none⟩ : Addr))), (9, .pointer (some (⟨g51, 0, none⟩ : Addr))), (134, .slice Aa44 t38.Syms.length cc45), (136, .int .i64 (w64 a2)), (137, .pointer (some (((⟨g51, 0, none⟩ : Addr) : Addr).add 2)))]) (by kernel_rfl) ?_ (by kernel_rfl)
         clear hs; intro a hs
         refine d_run hs (op := (Op.load 24 (Operand.tmp 137))) (ty := 24) (dst := some 138) (g := none) (by kernel_rfl) (by kernel_rfl) (by kernel_rfl) (fun wx hbx => (x_bldD (g := g51) (o := 2) (p := ((⟨g51, 0, none⟩ : Addr) : Addr).add 2) (v := .slice Aa44 t38.Syms.length cc45) (hw.up 0) hbx (by kernel_rfl) rfl (by kernel_rfl) (by kernel_rfl))) [8, 9, 134, 136, 138] (L' := [(8, .pointer (some (⟨g27, 0, none⟩ : Addr))), (9, .pointer (some (⟨g51, 0, none⟩ : Addr))), (134, .slice Aa44 t38.Syms.length cc45), (136, .int .i64 (w64 a2)), (138, .slice Aa44 t38.Syms.length cc45)]) (by kernel_rfl) ?_
         clear hs; intro a hs
         refine c_pvs [6] [7, 8, 9] [8, 9, 134, 136, 139] hs (L' := [(8, .pointer (some (⟨g27, 0, none⟩ : Addr))), (9, .pointer (some (⟨g51, 0, none⟩ : Addr))), (134, .slice Aa44 t38.Syms.length cc45), (136, .int .i64 (w64 a2)), (139, .int .i64 (t38.Syms.length : Int))]) (by kernel_rfl) ?_ (by kernel_rfl)
         clear hs; intro a hs
         obtain ⟨hp180, H⟩ := ite_only H
         refine d_run hs (op := (Op.binOp BinOp.rem 3 (Operand.tmp 136) (Operand.tmp 139) 3)) (ty := 3) (dst := some 140) (g := none) (by kernel_rfl) (by kernel_rfl) (by kernel_rfl) (fun wx hbx => (x_rem (k := .i64) (m := w64 a2) (n := (t38.Syms.length : Int)) (by kernel_rfl) (by kernel_rfl) hp180)) [8, 9, 134, 140] (L' := [(8, .pointer (some (⟨g27, 0, none⟩ : Addr))), (9, .pointer (some (⟨g51, 0, none⟩ : Addr))), (134, .slice Aa44 t38.Syms.length cc45), (140, .int .i64 ((w64 a2).tmod (t38.Syms.length : Int)))]) (by kernel_rfl) ?_
         clear hs; intro a hs
         obtain ⟨hp181, H⟩ := ite_only H
         obtain ⟨ad182, rfl⟩ := (Rd.of_own (hw.up 6)).some hp181.1 hp181.2
         refine d_run hs (op := (Op.indexAddr 24 (Operand.tmp 134) (Operand.tmp 140))) (ty := 0) (dst := some 141) (g := none) (by kernel_rfl) (by kernel_rfl) (by kernel_rfl) (fun wx hbx => (x_idx (T := 39) (sz := 2) (a := ad182) (n := t38.Syms.length) (cap := cc45) (k := .i64) (i := ((w64 a2).tmod (t38.Syms.length : Int))) (by kernel_rfl) (by kernel_rfl) (by kernel_rfl) (by kernel_rfl) hp181.1 hp181.2)) [8, 9, 141] (L' := [(8, .pointer (some (⟨g27, 0, none⟩ : Addr))), (9, .pointer (some (⟨g51, 0, none⟩ : Addr))), (141, .pointer (some (ad182.add (((w64 a2).tmod (t38.Syms.length : Int)).toNat * 2))))]) (by kernel_rfl) ?_
         clear hs; intro a hs
         refine c_pvs [9] [] [8, 9, 142] hs (L' := [(8, .pointer (some (⟨g27, 0, none⟩ : Addr))), (9, .pointer (some (⟨g51, 0, none⟩ : Addr))), (142, .pointer (some ((ad182.add (((w64 a2).tmod (t38.Syms.length : Int)).toNat * 2) : Addr).add 1)))]) (by kernel_rfl) ?_ (by kernel_rfl)
         clear hs; intro a hs
         refine c_end ?_
         intro wq hbq
         replace hw := hw.behind hbq
         replace hw := hw.up 6
         obtain ⟨wd183, hx184, hw⟩ := x_put (P := Tryd.prog) (ty := 0) (t := 3) (x := (Operand.tmp 142)) (y := (Operand.const (Value.int IntKind.i64 2))) (off := 1) (p := (ad182.add (((w64 a2).tmod (t38.Syms.length : Int)).toNat * 2) : Addr).add 1) (v := .int .i64 2) (vs := [.int .i64 2]) (i := ((w64 a2).tmod (t38.Syms.length : Int))) (e' := (({ (ix eSapi_Sym.d t38.Syms ((w64 a2).tmod (t38.Syms.length : Int))) with At := 2 } : Sapi_Sym) : Sapi_Sym)) hs hw rfl hp181.1 hp181.2 (by kernel_rfl) (by simp only [add_add', Nat.add_assoc]; rfl) (by kernel_rfl) rfl (by kernel_rfl) (Nat.le_of_ble_eq_true rfl) (by simp [Value.oneCell']) (by kernel_rfl)
         refine p_unit hs (op := (Op.store 3 (Operand.tmp 142) (Operand.const (Value.int IntKind.i64 2)))) (ty := 0) (dst := none) (g := none) (by kernel_rfl) (by kernel_rfl) (by kernel_rfl) hx184 [8, 9] (L' := [(8, .pointer (some (⟨g27, 0, none⟩ : Addr))), (9, .pointer (some (⟨g51, 0, none⟩ : Addr)))]) (by kernel_rfl) ?_
         clear hs; intro a hs
         replace hw : St [] w0 wd183 [own 39 eSapi_Sym (some ad182) cc45 (t38.Syms.set (((w64 a2).tmod (t38.Syms.length : Int)) : Int).toNat ({ (ix eSapi_Sym.d t38.Syms ((w64 a2).tmod (t38.Syms.length : Int))) with At := 2 } : Sapi_Sym)), box g51 26 [.slice Aa40 t38.Words.length cc41, .slice Aa42 t38.Sites.length cc43, .slice (some ad182) (t38.Syms.set (((w64 a2).tmod (t38.Syms.length : Int)) : Int).toNat ({ (ix eSapi_Sym.d t38.Syms ((w64 a2).tmod (t38.Syms.length : Int))) with At := 2 } : Sapi_Sym)).length cc45], own 39 eSapi_Sym none 0 ([] : List Sapi_Sym), own 3 (eI .i64) none 0 ([] : List Int), own 37 (eI .u32) none 0 ([] : List Int), own 37 (eI .u32) Aa40 cc41 t38.Words, own 3 (eI .i64) Aa42 cc43 t38.Sites, box g27 26 [.slice Aa16 t14.Words.length cc17, .slice Aa18 t14.Sites.length cc19, .slice Aa20 t14.Syms.length cc21], own 39 eSapi_Sym none 0 ([] : List Sapi_Sym), own 3 (eI .i64) none 0 ([] : List Int), own 37 (eI .u32) none 0 ([] : List Int), own 37 (eI .u32) Aa16 cc17 t14.Words, own 3 (eI .i64) Aa18 cc19 t14.Sites, own 39 eSapi_Sym Aa20 cc21 t14.Syms, box g2 35 [.slice A0_1 a0.Words.length c0_1, .slice A0_2 a0.Bits.length c0_2, .slice A0_3 a0.Names.length c0_3]] := by rw [show (t38.Syms.set (((w64 a2).tmod (t38.Syms.length : Int)) : Int).toNat ({ (ix eSapi_Sym.d t38.Syms ((w64 a2).tmod (t38.Syms.length : Int))) with At := 2 } : Sapi_Sym)).length = (t38.Syms).length from List.length_set]; exact hw
         refine c_done ⟨.inl (by kernel_rfl), ?_⟩
         clear hbq
         refine d_last ?_
         refine c_end ?_
         intro wq hbq
         replace hw := hw.behind hbq
         refine hK179 _ _ ?_
         refine go_region ?_
         refine go_pvs 0 1 [8, 9, 11] hs (L' := [(8, .pointer (some (⟨g27, 0, none⟩ : Addr))), (9, .pointer (some (⟨g51, 0, none⟩ : Addr))), (11, .int .i64 8)]) (by kernel_rfl) ?_ rfl
         clear hs; intro a hs
         refine go_end (by kernel_rfl) ?_
         refine ib_norm ?_
         replace hw := hw.up 6
         replace hw := hw.up 14
         replace hw := hw.up 14
         replace hw := hw.up 14
         replace hw := hw.up 14
         replace hw := hw.up 14
         replace hw := hw.up 14
         replace hw := hw.up 14
         replace hw := hw.up 14
         replace hw := hw.up 9
         replace hw := hw.up 14
         replace hw := hw.up 14
         replace hw := hw.up 14
         replace hw := hw.up 14
         replace hw := hw.up 14
         replace hw := hw.only 15
         exact hJ3 Aa40 cc41 t38.Words (some ad182) cc45 (t38.Syms.set (((w64 a2).tmod (t38.Syms.length : Int)) : Int).toNat ({ (ix eSapi_Sym.d t38.Syms ((w64 a2).tmod (t38.Syms.length : Int))) with At := 2 } : Sapi_Sym)) Aa42 cc43 t38.Sites 8 _ _ (hs.keep [8, 9, 11] (by kernel_rfl)) hw H
        ·replace H := ite_f H (of_decide_eq_false hc)
         have hb185 := hc
         rw [hb185] at hs
         refine wp_skip ?_
         refine ib_norm ?_
         replace hw := hw.up 5
         replace hw := hw.up 14
         replace hw := hw.up 14
         replace hw := hw.up 14
         replace hw := hw.up 14
         replace hw := hw.up 14
         replace hw := hw.up 14
         replace hw := hw.up 14
         replace hw := hw.up 14
         replace hw := hw.up 14
         replace hw := hw.up 14
         replace hw := hw.up 14
         replace hw := hw.up 14
         replace hw := hw.up 14
         replace hw := hw.up 14
         replace hw := hw.only 15
         exact hJ3 Aa40 cc41 t38.Words Aa44 cc45 t38.Syms Aa42 cc43 t38.Sites 0 _ _ (hs.keep [8, 9, 11] (by kernel_rfl)) hw H
       ·replace H := ite_f H (beq_eq_false_iff_ne.1 hc)
        have hb186 := hc
        rw [hb186] at hs
        refine go_seq_k fun K187 hK187 => ?_
        refine go_region ?_
        refine go_pvs 0 1 [8, 9, 10, 45] hs (L' := [(8, .pointer (some (⟨g27, 0, none⟩ : Addr))), (9, .pointer (some (⟨g51, 0, none⟩ : Addr))), (10, .int .i64 y79), (45, .pointer (some (((⟨g51, 0, none⟩ : Addr) : Addr).add 0)))]) (by kernel_rfl) ?_ rfl
        clear hs; intro a hs
        refine go_run hs (op := (Op.load 22 (Operand.tmp 45))) (ty := 22) (dst := some 46) (g := none) (by kernel_rfl) (by kernel_rfl) (by kernel_rfl) (x_bld (g := g51) (o := 0) (p := ((⟨g51, 0, none⟩ : Addr) : Addr).add 0) (v := .slice Aa40 t38.Words.length cc41) (hw.up 0) (by kernel_rfl) rfl (by kernel_rfl) (by kernel_rfl)) [8, 9, 10, 46] (L' := [(8, .pointer (some (⟨g27, 0, none⟩ : Addr))), (9, .pointer (some (⟨g51, 0, none⟩ : Addr))), (10, .int .i64 y79), (46, .slice Aa40 t38.Words.length cc41)]) (by kernel_rfl) ?_
        clear hs; intro a hs
        refine go_pvs 2 4 [8, 9, 46, 48] hs (L' := [(8, .pointer (some (⟨g27, 0, none⟩ : Addr))), (9, .pointer (some (⟨g51, 0, none⟩ : Addr))), (46, .slice Aa40 t38.Words.length cc41), (48, .int .i64 (w64 (1025 - y79)))]) (by kernel_rfl) ?_ rfl
        clear hs; intro a hs
        obtain ⟨hp188, H⟩ := ite_only H
        replace hw := hw.up 4
        obtain ⟨Aa189, cc190, wd191, hx192, hw⟩ := x_appendz (P := Tryd.prog) (t := 22) (tx := 3) (ty := 22) (x := (Operand.tmp 46)) (y := (Operand.tmp 48)) (z := .int .u32 0) (bytes := 4) (n := (w64 (1025 - y79))) hs hw (by kernel_rfl) (by kernel_rfl) (by kernel_rfl) (by kernel_rfl) (by kernel_rfl) (by kernel_rfl) hp188.1 (by have := hp188.2; omega) (by have := hp188.2; omega) (by have := hp188.2; omega)
        refine go_run hs (op := (Op.call { callee := (Callee.builtin Builtin.append), args := #[(Operand.tmp 46), (Operand.tmp 48)], argTypes := #[22, 3] })) (ty := 22) (dst := some 49) (g := none) (by kernel_rfl) (by kernel_rfl) (by kernel_rfl) hx192 [8, 9, 49] (L' := [(8, .pointer (some (⟨g27, 0, none⟩ : Addr))), (9, .pointer (some (⟨g51, 0, none⟩ : Addr))), (49, .slice Aa189 (t38.Words ++ List.replicate (w64 (1025 - y79)).toNat (eI .u32).d).length cc190)]) (by kernel_rfl) ?_
        clear hs; intro a hs
        refine go_pvs 5 6 [8, 9, 49, 50] hs (L' := [(8, .pointer (some (⟨g27, 0, none⟩ : Addr))), (9, .pointer (some (⟨g51, 0, none⟩ : Addr))), (49, .slice Aa189 (t38.Words ++ List.replicate (w64 (1025 - y79)).toNat (eI .u32).d).length cc190), (50, .pointer (some (((⟨g51, 0, none⟩ : Addr) : Addr).add 0)))]) (by kernel_rfl) ?_ rfl
        clear hs; intro a hs
        replace hw := hw.up 1
        obtain ⟨wd193, hx194, hw⟩ := x_bput (P := Tryd.prog) (ty := 0) (t := 22) (y := (Operand.tmp 50)) (z := (Operand.tmp 49)) (o := 0) (p := ((⟨g51, 0, none⟩ : Addr) : Addr).add 0) (v := .slice Aa189 (t38.Words ++ List.replicate (w64 (1025 - y79)).toNat (eI .u32).d).length cc190) (vs := [.slice Aa189 (t38.Words ++ List.replicate (w64 (1025 - y79)).toNat (eI .u32).d).length cc190]) (cs' := [.slice Aa189 (t38.Words ++ List.replicate (w64 (1025 - y79)).toNat (eI .u32).d).length cc190, .slice Aa42 t38.Sites.length cc43, .slice Aa44 t38.Syms.length cc45]) hs hw (by kernel_rfl) rfl (by kernel_rfl) rfl (by kernel_rfl) (by kernel_rfl) (by simp [Value.oneCell']) rfl
        refine go_unit hs (op := (Op.store 22 (Operand.tmp 50) (Operand.tmp 49))) (ty := 0) (dst := none) (g := none) (by kernel_rfl) (by kernel_rfl) (by kernel_rfl) hx194 [8, 9] (L' := [(8, .pointer (some (⟨g27, 0, none⟩ : Addr))), (9, .pointer (some (⟨g51, 0, none⟩ : Addr)))]) (by kernel_rfl) ?_
        clear hs; intro a hs
        refine go_end (by kernel_rfl) ?_
        refine hK187 _ _ ?_
        refine go_region ?_
        refine go_pvs 0 1 [8, 9, 11] hs (L' := [(8, .pointer (some (⟨g27, 0, none⟩ : Addr))), (9, .pointer (some (⟨g51, 0, none⟩ : Addr))), (11, .int .i64 2)]) (by kernel_rfl) ?_ rfl
        clear hs; intro a hs
        refine go_end (by kernel_rfl) ?_
        refine ib_norm ?_
        replace hw := hw.up 5
        replace hw := hw.up 14
        replace hw := hw.up 14
        replace hw := hw.up 14
        replace hw := hw.up 14
        replace hw := hw.up 14
        replace hw := hw.up 14
        replace hw := hw.up 14
        replace hw := hw.up 14
        replace hw := hw.up 14
        replace hw := hw.up 11
        replace hw := hw.up 14
        replace hw := hw.up 14
        replace hw := hw.up 14
        replace hw := hw.up 14
        replace hw := hw.only 15
        exact hJ3 Aa189 cc190 (t38.Words ++ List.replicate (w64 (1025 - y79)).toNat (eI .u32).d) Aa44 cc45 t38.Syms Aa42 cc43 t38.Sites 2 _ _ (hs.keep [8, 9, 11] (by kernel_rfl)) hw H
 refine go_seq_k fun K61 hK61 => ?_
 have hJ1 : ∀ (v74 : Bool) (a : Act) (w : World), Slots a 155 [(1, .int .u8 a1), (2, .int .u8 a2), (8, .pointer (some (⟨g27, 0, none⟩ : Addr))), (9, .pointer (some (⟨g51, 0, none⟩ : Addr))), (39, .bool v74)] → St [] w0 w [box g51 26 [.slice Aa40 t38.Words.length cc41, .slice Aa42 t38.Sites.length cc43, .slice Aa44 t38.Syms.length cc45], own 39 eSapi_Sym none 0 ([] : List Sapi_Sym), own 3 (eI .i64) none 0 ([] : List Int), own 37 (eI .u32) none 0 ([] : List Int), own 37 (eI .u32) Aa40 cc41 t38.Words, own 3 (eI .i64) Aa42 cc43 t38.Sites, own 39 eSapi_Sym Aa44 cc45 t38.Syms, box g27 26 [.slice Aa16 t14.Words.length cc17, .slice Aa18 t14.Sites.length cc19, .slice Aa20 t14.Syms.length cc21], own 39 eSapi_Sym none 0 ([] : List Sapi_Sym), own 3 (eI .i64) none 0 ([] : List Int), own 37 (eI .u32) none 0 ([] : List Int), own 37 (eI .u32) Aa16 cc17 t14.Words, own 3 (eI .i64) Aa18 cc19 t14.Sites, own 39 eSapi_Sym Aa20 cc21 t14.Syms, box g2 35 [.slice A0_1 a0.Words.length c0_1, .slice A0_2 a0.Bits.length c0_2, .slice A0_3 a0.Names.length c0_3]] → rivetlaw09_ObjectSpoilt.j1 t38 a1 t14 a2 v74 = some r → K61 a w := by
  intro v74 a w hs hw H
  unfold rivetlaw09_ObjectSpoilt.j1 at H
  refine hK61 _ _ ?_
  refine go_cond hs v74 (by kernel_rfl) (fun hc => ?_) (fun hc => ?_)
  ·replace H := ite_t H hc
   have hb75 := hc
   rw [hb75] at hs
   refine go_seq_k fun K76 hK76 => ?_
   refine go_region ?_
   refine go_pvs 0 1 [6] hs (L' := [(6, .bool false)]) (by kernel_rfl) ?_ rfl
   clear hs; intro a hs
   refine go_end (by kernel_rfl) ?_
   refine hK76 _ _ ?_
   refine wp_ret ?_
   refine th_ret ?_
   obtain rfl := Option.some.inj H
   refine ret1 (t := 6) (v := .bool false) hs (by kernel_rfl) (by kernel_rfl) ?_
   exact ⟨rfl, hw.only 0⟩
  ·replace H := ite_f H (ff hc)
   have hb77 := hc
   rw [hb77] at hs
   refine wp_skip ?_
   replace hw := hw.up 14
   replace hw := hw.up 14
   replace hw := hw.up 14
   replace hw := hw.up 14
   replace hw := hw.up 14
   replace hw := hw.up 14
   replace hw := hw.up 14
   replace hw := hw.up 14
   replace hw := hw.up 14
   replace hw := hw.up 14
   replace hw := hw.up 14
   replace hw := hw.up 14
   replace hw := hw.up 14
   replace hw := hw.up 14
   replace hw := hw.up 14
   replace hw := hw.only 15
   exact hJ2 _ _ (hs.keep [1, 2, 8, 9] (by kernel_rfl)) hw H
 refine go_region ?_
 refine go_pvs 0 3 [1, 2, 8, 9, 29] hs (L' := [(1, .int .u8 a1), (2, .int .u8 a2), (8, .pointer (some (⟨g27, 0, none⟩ : Addr))), (9, .pointer (some (⟨g51, 0, none⟩ : Addr))), (29, .bool (!t8))]) (by kernel_rfl) ?_ rfl
 clear hs; intro a hs
 cases hb62 : (!t8)
 ·replace H := ite_t H (nf hb62)
  rw [hb62] at hs
  refine go_run hs (op := (Op.load 26 (Operand.tmp 8))) (ty := 26) (dst := some 30) (g := some (2, false)) (by kernel_rfl) (by kernel_rfl) (by kernel_rfl) (x_blds (g := g27) (o := 0) (p := (⟨g27, 0, none⟩ : Addr)) (vs := [.slice Aa16 t14.Words.length cc17, .slice Aa18 t14.Sites.length cc19, .slice Aa20 t14.Syms.length cc21]) (hw.up 7) (by kernel_rfl) rfl (by kernel_rfl) (by kernel_rfl) (by kernel_rfl)) [1, 2, 8, 9, 29, 30] (L' := [(1, .int .u8 a1), (2, .int .u8 a2), (8, .pointer (some (⟨g27, 0, none⟩ : Addr))), (9, .pointer (some (⟨g51, 0, none⟩ : Addr))), (29, .bool false), (30, .agg #[.slice Aa16 t14.Words.length cc17, .slice Aa18 t14.Sites.length cc19, .slice Aa20 t14.Syms.length cc21])]) (by kernel_rfl) ?_
  clear hs; intro a hs
  obtain ⟨t64, hx65, H⟩ := bind_some H
  refine go_call hs (op := (Op.call { callee := (Callee.value (Operand.func 15)), args := #[(Operand.tmp 30)], argTypes := #[26] })) (ty := 29) (dst := some 31) (g := some (2, false)) (by kernel_rfl) (by kernel_rfl) (by kernel_rfl) (f := 15) (args := #[.agg #[.slice Aa16 t14.Words.length cc17, .slice Aa18 t14.Sites.length cc19, .slice Aa20 t14.Syms.length cc21]]) (by kernel_rfl) (object_May.calls t14 Aa16 cc17 Aa18 cc19 Aa20 cc21 t64 _ (Rd.of_own (hw.up 11)) (Rd.of_own (hw.up 12)) (Rd.of_own (hw.up 13)) hx65) ?_
  rintro e wd66 ⟨rfl, hw67⟩
  refine ⟨_, rfl, ?_⟩
  replace hw := hw.call hw67
  intro a hs1
  replace hs : Slots a 155 [(1, .int .u8 a1), (2, .int .u8 a2), (8, .pointer (some (⟨g27, 0, none⟩ : Addr))), (9, .pointer (some (⟨g51, 0, none⟩ : Addr))), (29, .bool false), (31, .int .i64 t64)] := hs1.keep [1, 2, 8, 9, 29, 31] (by kernel_rfl)
  clear hs1
  refine go_pvs 5 8 [1, 2, 8, 9, 34] hs (L' := [(1, .int .u8 a1), (2, .int .u8 a2), (8, .pointer (some (⟨g27, 0, none⟩ : Addr))), (9, .pointer (some (⟨g51, 0, none⟩ : Addr))), (34, .bool (t64 != 0))]) (by kernel_rfl) ?_ rfl
  clear hs; intro a hs
  cases hb68 : (t64 != 0)
  ·replace H := ite_t H (bne_eq_false_iff_eq.1 hb68)
   rw [hb68] at hs
   refine go_run hs (op := (Op.load 26 (Operand.tmp 8))) (ty := 26) (dst := some 35) (g := some (7, false)) (by kernel_rfl) (by kernel_rfl) (by kernel_rfl) (x_blds (g := g27) (o := 0) (p := (⟨g27, 0, none⟩ : Addr)) (vs := [.slice Aa16 t14.Words.length cc17, .slice Aa18 t14.Sites.length cc19, .slice Aa20 t14.Syms.length cc21]) (hw.up 7) (by kernel_rfl) rfl (by kernel_rfl) (by kernel_rfl) (by kernel_rfl)) [1, 2, 8, 9, 34, 35] (L' := [(1, .int .u8 a1), (2, .int .u8 a2), (8, .pointer (some (⟨g27, 0, none⟩ : Addr))), (9, .pointer (some (⟨g51, 0, none⟩ : Addr))), (34, .bool false), (35, .agg #[.slice Aa16 t14.Words.length cc17, .slice Aa18 t14.Sites.length cc19, .slice Aa20 t14.Syms.length cc21])]) (by kernel_rfl) ?_
   clear hs; intro a hs
   refine go_run hs (op := (Op.load 26 (Operand.tmp 9))) (ty := 26) (dst := some 36) (g := some (7, false)) (by kernel_rfl) (by kernel_rfl) (by kernel_rfl) (x_blds (g := g51) (o := 0) (p := (⟨g51, 0, none⟩ : Addr)) (vs := [.slice Aa40 t38.Words.length cc41, .slice Aa42 t38.Sites.length cc43, .slice Aa44 t38.Syms.length cc45]) (hw.up 0) (by kernel_rfl) rfl (by kernel_rfl) (by kernel_rfl) (by kernel_rfl)) [1, 2, 8, 9, 34, 35, 36] (L' := [(1, .int .u8 a1), (2, .int .u8 a2), (8, .pointer (some (⟨g27, 0, none⟩ : Addr))), (9, .pointer (some (⟨g51, 0, none⟩ : Addr))), (34, .bool false), (35, .agg #[.slice Aa16 t14.Words.length cc17, .slice Aa18 t14.Sites.length cc19, .slice Aa20 t14.Syms.length cc21]), (36, .agg #[.slice Aa40 t38.Words.length cc41, .slice Aa42 t38.Sites.length cc43, .slice Aa44 t38.Syms.length cc45])]) (by kernel_rfl) ?_
   clear hs; intro a hs
   obtain ⟨t70, hx71, H⟩ := bind_some H
   refine go_call hs (op := (Op.call { callee := (Callee.value (Operand.func 17)), args := #[(Operand.tmp 35), (Operand.tmp 36)], argTypes := #[26, 26] })) (ty := 4) (dst := some 37) (g := some (7, false)) (by kernel_rfl) (by kernel_rfl) (by kernel_rfl) (f := 17) (args := #[.agg #[.slice Aa16 t14.Words.length cc17, .slice Aa18 t14.Sites.length cc19, .slice Aa20 t14.Syms.length cc21], .agg #[.slice Aa40 t38.Words.length cc41, .slice Aa42 t38.Sites.length cc43, .slice Aa44 t38.Syms.length cc45]]) (by kernel_rfl) (object_Same.calls t14 Aa16 cc17 Aa18 cc19 Aa20 cc21 t38 Aa40 cc41 Aa42 cc43 Aa44 cc45 t70 _ (Rd.of_own (hw.up 11)) (Rd.of_own (hw.up 12)) (Rd.of_own (hw.up 13)) (Rd.of_own (hw.up 4)) (Rd.of_own (hw.up 5)) (Rd.of_own (hw.up 6)) hx71) ?_
   rintro e wd72 ⟨rfl, hw73⟩
   refine ⟨_, rfl, ?_⟩
   replace hw := hw.call hw73
   intro a hs1
   replace hs : Slots a 155 [(1, .int .u8 a1), (2, .int .u8 a2), (8, .pointer (some (⟨g27, 0, none⟩ : Addr))), (9, .pointer (some (⟨g51, 0, none⟩ : Addr))), (34, .bool false), (37, .bool t70)] := hs1.keep [1, 2, 8, 9, 34, 37] (by kernel_rfl)
   clear hs1
   refine go_pvs 11 13 [1, 2, 8, 9, 39] hs (L' := [(1, .int .u8 a1), (2, .int .u8 a2), (8, .pointer (some (⟨g27, 0, none⟩ : Addr))), (9, .pointer (some (⟨g51, 0, none⟩ : Addr))), (39, .bool (!t70))]) (by kernel_rfl) ?_ rfl
   clear hs; intro a hs
   refine go_end (by kernel_rfl) ?_
   replace hw := hw.up 14
   replace hw := hw.up 14
   replace hw := hw.up 14
   replace hw := hw.up 14
   replace hw := hw.up 14
   replace hw := hw.up 14
   replace hw := hw.up 14
   replace hw := hw.up 14
   replace hw := hw.up 14
   replace hw := hw.up 14
   replace hw := hw.up 14
   replace hw := hw.up 14
   replace hw := hw.up 14
   replace hw := hw.up 14
   replace hw := hw.up 14
   replace hw := hw.only 15
   exact hJ1 (!t70) _ _ (hs.keep [1, 2, 8, 9, 39] (by kernel_rfl)) hw H
  ·replace H := ite_f H (bne_iff_ne.1 hb68)
   rw [hb68] at hs
   refine go_pvs 8 13 [1, 2, 8, 9, 39] hs (L' := [(1, .int .u8 a1), (2, .int .u8 a2), (8, .pointer (some (⟨g27, 0, none⟩ : Addr))), (9, .pointer (some (⟨g51, 0, none⟩ : Addr))), (39, .bool true)]) (by kernel_rfl) ?_ rfl
   clear hs; intro a hs
   refine go_end (by kernel_rfl) ?_
   replace hw := hw.up 14
   replace hw := hw.up 14
   replace hw := hw.up 14
   replace hw := hw.up 14
   replace hw := hw.up 14
   replace hw := hw.up 14
   replace hw := hw.up 14
   replace hw := hw.up 14
   replace hw := hw.up 14
   replace hw := hw.up 14
   replace hw := hw.up 14
   replace hw := hw.up 14
   replace hw := hw.up 14
   replace hw := hw.up 14
   replace hw := hw.up 14
   replace hw := hw.only 15
   exact hJ1 true _ _ (hs.keep [1, 2, 8, 9, 39] (by kernel_rfl)) hw H
 ·replace H := ite_f H (ff (nt hb62))
  rw [hb62] at hs
  refine go_pvs 3 13 [1, 2, 8, 9, 39] hs (L' := [(1, .int .u8 a1), (2, .int .u8 a2), (8, .pointer (some (⟨g27, 0, none⟩ : Addr))), (9, .pointer (some (⟨g51, 0, none⟩ : Addr))), (39, .bool true)]) (by kernel_rfl) ?_ rfl
  clear hs; intro a hs
  refine go_end (by kernel_rfl) ?_
  replace hw := hw.up 14
  replace hw := hw.up 14
  replace hw := hw.up 14
  replace hw := hw.up 14
  replace hw := hw.up 14
  replace hw := hw.up 14
  replace hw := hw.up 14
  replace hw := hw.up 14
  replace hw := hw.up 14
  replace hw := hw.up 14
  replace hw := hw.up 14
  replace hw := hw.up 14
  replace hw := hw.up 14
  replace hw := hw.up 14
  replace hw := hw.up 14
  replace hw := hw.only 15
  exact hJ1 true _ _ (hs.keep [1, 2, 8, 9, 39] (by kernel_rfl)) hw H

end Go.Proofs.YtmfnololpfdfdaaDoor.T09
