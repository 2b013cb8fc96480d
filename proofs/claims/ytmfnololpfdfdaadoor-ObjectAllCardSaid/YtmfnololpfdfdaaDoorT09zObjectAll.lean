/- YtmfnololpfdfdaaDoorT09zObjectAll: Go functions told as plain ones, each with a proof that its call comes to what is told, part 1. Condition of each: that the plain function comes to a value. -/
import Derived.Test.YtmfnololpfdfdaaDoorT09
import Derived.Test.YtmfnololpfdfdaaDoorEN
import Derived.Test.YtmfnololpfdfdaaDoorProg
namespace Go.Proofs.YtmfnololpfdfdaaDoor.T09
open Go Go.RowKit Go.Proofs.YtmfnololpfdfdaaDoor.E
set_option linter.unusedVariables false
set_option linter.unusedSimpArgs false

/-! rivet/rivetlaw09.ObjectAll: function 3 -/
noncomputable def rivetlaw09_ObjectAll.j2 (v59 : Int) (a0 : Sapi_Obj) (l56 : List Sapi_Sym) : Option ((List Sapi_Sym) × Int ⊕ (List Sapi_Sym)) := (if 0 ≤ v59 ∧ v59 < (a0.Syms.length : Int) then (if 0 ≤ (0 : Int) ∧ (0 : Int) ≤ (mnn ((((ix eSapi_Sym.d a0.Syms v59) : Sapi_Sym).Name).size : Int) 20) ∧ (mnn ((((ix eSapi_Sym.d a0.Syms v59) : Sapi_Sym).Name).size : Int) 20) ≤ ((((ix eSapi_Sym.d a0.Syms v59) : Sapi_Sym).Name).size : Int) then (if l56.length + ([({ ((ix eSapi_Sym.d a0.Syms v59) : Sapi_Sym) with Name := (((ix eSapi_Sym.d a0.Syms v59) : Sapi_Sym).Name).extract ((0 : Int) : Int).toNat ((mnn ((((ix eSapi_Sym.d a0.Syms v59) : Sapi_Sym).Name).size : Int) 20) : Int).toNat } : Sapi_Sym)] : List Sapi_Sym).length ≤ 5864062014805 then some (.inl (l56 ++ ([({ ((ix eSapi_Sym.d a0.Syms v59) : Sapi_Sym) with Name := (((ix eSapi_Sym.d a0.Syms v59) : Sapi_Sym).Name).extract ((0 : Int) : Int).toNat ((mnn ((((ix eSapi_Sym.d a0.Syms v59) : Sapi_Sym).Name).size : Int) 20) : Int).toNat } : Sapi_Sym)] : List Sapi_Sym), w64 (v59 + 1))) else none) else none) else none)
noncomputable def rivetlaw09_ObjectAll.j1 (v59 : Int) (a0 : Sapi_Obj) (l56 : List Sapi_Sym) (v63 : Bool) : Option ((List Sapi_Sym) × Int ⊕ (List Sapi_Sym)) := (if v63 = true then rivetlaw09_ObjectAll.j2 v59 a0 l56 else some (.inr l56))
noncomputable def rivetlaw09_ObjectAll.j5 (v151 : Int) (a1 : Sapi_Obj) (l148 : List Sapi_Sym) : Option ((List Sapi_Sym) × Int ⊕ (List Sapi_Sym)) := (if 0 ≤ v151 ∧ v151 < (a1.Syms.length : Int) then (if 0 ≤ (0 : Int) ∧ (0 : Int) ≤ (mnn ((((ix eSapi_Sym.d a1.Syms v151) : Sapi_Sym).Name).size : Int) 20) ∧ (mnn ((((ix eSapi_Sym.d a1.Syms v151) : Sapi_Sym).Name).size : Int) 20) ≤ ((((ix eSapi_Sym.d a1.Syms v151) : Sapi_Sym).Name).size : Int) then (if l148.length + ([({ ((ix eSapi_Sym.d a1.Syms v151) : Sapi_Sym) with Name := (((ix eSapi_Sym.d a1.Syms v151) : Sapi_Sym).Name).extract ((0 : Int) : Int).toNat ((mnn ((((ix eSapi_Sym.d a1.Syms v151) : Sapi_Sym).Name).size : Int) 20) : Int).toNat } : Sapi_Sym)] : List Sapi_Sym).length ≤ 5864062014805 then some (.inl (l148 ++ ([({ ((ix eSapi_Sym.d a1.Syms v151) : Sapi_Sym) with Name := (((ix eSapi_Sym.d a1.Syms v151) : Sapi_Sym).Name).extract ((0 : Int) : Int).toNat ((mnn ((((ix eSapi_Sym.d a1.Syms v151) : Sapi_Sym).Name).size : Int) 20) : Int).toNat } : Sapi_Sym)] : List Sapi_Sym), w64 (v151 + 1))) else none) else none) else none)
noncomputable def rivetlaw09_ObjectAll.j4 (v151 : Int) (a1 : Sapi_Obj) (l148 : List Sapi_Sym) (v155 : Bool) : Option ((List Sapi_Sym) × Int ⊕ (List Sapi_Sym)) := (if v155 = true then rivetlaw09_ObjectAll.j5 v151 a1 l148 else some (.inr l148))
noncomputable def rivetlaw09_ObjectAll.j7 (v233 : Bool) : Option Bool := some v233
noncomputable def rivetlaw09_ObjectAll.j6 (t12 : Bool) (a0 : Sapi_Obj) (l93 : List Sapi_Sym) (a1 : Sapi_Obj) (l185 : List Sapi_Sym) : Option Bool := (if t12 = true then ((object_May (⟨a0.Words.take (mnn (a0.Words.length : Int) 30 : Int).toNat, a0.Sites.take (mnn (a0.Sites.length : Int) 30 : Int).toNat, l93⟩ : Sapi_Obj)).bind fun t203 => (((rivetref09_May (⟨a0.Words.take (mnn (a0.Words.length : Int) 30 : Int).toNat, a0.Sites.take (mnn (a0.Sites.length : Int) 30 : Int).toNat, l93⟩ : Sapi_Obj)).bind fun t206 => ((if t203 = t206 then ((object_May (⟨a1.Words.take (mnn (a1.Words.length : Int) 30 : Int).toNat, a1.Sites.take (mnn (a1.Sites.length : Int) 30 : Int).toNat, l185⟩ : Sapi_Obj)).bind fun t210 => (((rivetref09_May (⟨a1.Words.take (mnn (a1.Words.length : Int) 30 : Int).toNat, a1.Sites.take (mnn (a1.Sites.length : Int) 30 : Int).toNat, l185⟩ : Sapi_Obj)).bind fun t213 => ((if t210 = t213 then ((object_Same (⟨a0.Words.take (mnn (a0.Words.length : Int) 30 : Int).toNat, a0.Sites.take (mnn (a0.Sites.length : Int) 30 : Int).toNat, l93⟩ : Sapi_Obj) (⟨a1.Words.take (mnn (a1.Words.length : Int) 30 : Int).toNat, a1.Sites.take (mnn (a1.Sites.length : Int) 30 : Int).toNat, l185⟩ : Sapi_Obj)).bind fun t217 => (((rivetref09_Same (⟨a0.Words.take (mnn (a0.Words.length : Int) 30 : Int).toNat, a0.Sites.take (mnn (a0.Sites.length : Int) 30 : Int).toNat, l93⟩ : Sapi_Obj) (⟨a1.Words.take (mnn (a1.Words.length : Int) 30 : Int).toNat, a1.Sites.take (mnn (a1.Sites.length : Int) 30 : Int).toNat, l185⟩ : Sapi_Obj)).bind fun t220 => ((if (t217 == t220) = true then ((object_Same (⟨a0.Words.take (mnn (a0.Words.length : Int) 30 : Int).toNat, a0.Sites.take (mnn (a0.Sites.length : Int) 30 : Int).toNat, l93⟩ : Sapi_Obj) (⟨a0.Words.take (mnn (a0.Words.length : Int) 30 : Int).toNat, a0.Sites.take (mnn (a0.Sites.length : Int) 30 : Int).toNat, l93⟩ : Sapi_Obj)).bind fun t224 => ((if t224 = true then ((object_Same (⟨a1.Words.take (mnn (a1.Words.length : Int) 30 : Int).toNat, a1.Sites.take (mnn (a1.Sites.length : Int) 30 : Int).toNat, l185⟩ : Sapi_Obj) (⟨a0.Words.take (mnn (a0.Words.length : Int) 30 : Int).toNat, a0.Sites.take (mnn (a0.Sites.length : Int) 30 : Int).toNat, l93⟩ : Sapi_Obj)).bind fun t228 => (((object_Same (⟨a0.Words.take (mnn (a0.Words.length : Int) 30 : Int).toNat, a0.Sites.take (mnn (a0.Sites.length : Int) 30 : Int).toNat, l93⟩ : Sapi_Obj) (⟨a1.Words.take (mnn (a1.Words.length : Int) 30 : Int).toNat, a1.Sites.take (mnn (a1.Sites.length : Int) 30 : Int).toNat, l185⟩ : Sapi_Obj)).bind fun t231 => (rivetlaw09_ObjectAll.j7 (t228 == t231))))) else rivetlaw09_ObjectAll.j7 false))) else rivetlaw09_ObjectAll.j7 false))))) else rivetlaw09_ObjectAll.j7 false))))) else rivetlaw09_ObjectAll.j7 false))))) else rivetlaw09_ObjectAll.j7 false)
noncomputable def rivetlaw09_ObjectAll.b147 (a1 : Sapi_Obj) (l148 : List Sapi_Sym) (v151 : Int) : Option ((List Sapi_Sym) × Int ⊕ (List Sapi_Sym)) := (if v151 < (a1.Syms.length : Int) then rivetlaw09_ObjectAll.j4 v151 a1 l148 (decide (v151 < 12)) else rivetlaw09_ObjectAll.j4 v151 a1 l148 false)
noncomputable def rivetlaw09_ObjectAll.j3 (a1 : Sapi_Obj) (t12 : Bool) (a0 : Sapi_Obj) (l93 : List Sapi_Sym) : Option Bool := (if 0 ≤ (mnn (a1.Words.length : Int) 30) ∧ (mnn (a1.Words.length : Int) 30) ≤ (a1.Words.length : Int) then (if 0 ≤ (mnn (a1.Sites.length : Int) 30) ∧ (mnn (a1.Sites.length : Int) 30) ≤ (a1.Sites.length : Int) then ((loopO (fun (σ : (List Sapi_Sym) × Int) => rivetlaw09_ObjectAll.b147 a1 σ.1 σ.2) (([] : List Sapi_Sym), 0)).bind fun e => rivetlaw09_ObjectAll.j6 t12 a0 l93 a1 e) else none) else none)
noncomputable def rivetlaw09_ObjectAll.b55 (a0 : Sapi_Obj) (l56 : List Sapi_Sym) (v59 : Int) : Option ((List Sapi_Sym) × Int ⊕ (List Sapi_Sym)) := (if v59 < (a0.Syms.length : Int) then rivetlaw09_ObjectAll.j1 v59 a0 l56 (decide (v59 < 12)) else rivetlaw09_ObjectAll.j1 v59 a0 l56 false)
noncomputable def rivetlaw09_ObjectAll (a0 : Sapi_Obj) (a1 : Sapi_Obj) : Option Bool := ((rivetlaw09_shown).bind fun t12 => ((if 0 ≤ (mnn (a0.Words.length : Int) 30) ∧ (mnn (a0.Words.length : Int) 30) ≤ (a0.Words.length : Int) then (if 0 ≤ (mnn (a0.Sites.length : Int) 30) ∧ (mnn (a0.Sites.length : Int) 30) ≤ (a0.Sites.length : Int) then ((loopO (fun (σ : (List Sapi_Sym) × Int) => rivetlaw09_ObjectAll.b55 a0 σ.1 σ.2) (([] : List Sapi_Sym), 0)).bind fun e => rivetlaw09_ObjectAll.j3 a1 t12 a0 e) else none) else none)))
set_option maxRecDepth 100000 in
set_option maxHeartbeats 4000000 in
theorem rivetlaw09_ObjectAll.calls (a0 : Sapi_Obj) (A0_1 : Option Addr) (c0_1 : Nat) (A0_2 : Option Addr) (c0_2 : Nat) (A0_3 : Option Addr) (c0_3 : Nat) (a1 : Sapi_Obj) (A1_1 : Option Addr) (c1_1 : Nat) (A1_2 : Option Addr) (c1_2 : Nat) (A1_3 : Option Addr) (c1_3 : Nat) (r : Bool) (w0 : World) (hr0_1 : Rd w0 (eI .u32) A0_1 c0_1 a0.Words) (hr0_2 : Rd w0 (eI .i64) A0_2 c0_2 a0.Sites) (hr0_3 : Rd w0 eSapi_Sym A0_3 c0_3 a0.Syms) (hr1_1 : Rd w0 (eI .u32) A1_1 c1_1 a1.Words) (hr1_2 : Rd w0 (eI .i64) A1_2 c1_2 a1.Sites) (hr1_3 : Rd w0 eSapi_Sym A1_3 c1_3 a1.Syms) (H : rivetlaw09_ObjectAll a0 a1 = some r) :
    Calls Tryd.prog 3 #[.agg #[.slice A0_1 a0.Words.length c0_1, .slice A0_2 a0.Sites.length c0_2, .slice A0_3 a0.Syms.length c0_3], .agg #[.slice A1_1 a1.Words.length c1_1, .slice A1_2 a1.Sites.length c1_2, .slice A1_3 a1.Syms.length c1_3]] w0 fun e w' => e = .returned (.bool r) ∧ St [] w0 w' [] := by
 have hw : St [] w0 w0 [] := St.nil w0
 unfold rivetlaw09_ObjectAll at H
 refine go_fn Tryd.func3 rfl 51 Tryd.ntmps3 [(0, .agg #[.slice A0_1 a0.Words.length c0_1, .slice A0_2 a0.Sites.length c0_2, .slice A0_3 a0.Syms.length c0_3]), (1, .agg #[.slice A1_1 a1.Words.length c1_1, .slice A1_2 a1.Sites.length c1_2, .slice A1_3 a1.Syms.length c1_3])] (by kernel_rfl) rfl ?_
 intro a hs
 refine go_seq_k fun K1 hK1 => ?_
 refine go_region ?_
 obtain ⟨g2, wd3, hx4, hw⟩ := x_boxc (P := Tryd.prog) (elem := 26) (v := (Operand.tmp 0)) (ty := 0) (cs := [.slice A0_1 a0.Words.length c0_1, .slice A0_2 a0.Sites.length c0_2, .slice A0_3 a0.Syms.length c0_3]) hs hw (by kernel_rfl)
 refine go_run hs (op := (Op.box 26 (Operand.tmp 0))) (ty := 0) (dst := some 2) (g := none) (by kernel_rfl) (by kernel_rfl) (by kernel_rfl) hx4 [1, 2] (L' := [(1, .agg #[.slice A1_1 a1.Words.length c1_1, .slice A1_2 a1.Sites.length c1_2, .slice A1_3 a1.Syms.length c1_3]), (2, .pointer (some (⟨g2, 0, none⟩ : Addr)))]) (by kernel_rfl) ?_
 clear hs; intro a hs
 obtain ⟨g6, wd7, hx8, hw⟩ := x_boxc (P := Tryd.prog) (elem := 26) (v := (Operand.tmp 1)) (ty := 0) (cs := [.slice A1_1 a1.Words.length c1_1, .slice A1_2 a1.Sites.length c1_2, .slice A1_3 a1.Syms.length c1_3]) hs hw (by kernel_rfl)
 refine go_run hs (op := (Op.box 26 (Operand.tmp 1))) (ty := 0) (dst := some 3) (g := none) (by kernel_rfl) (by kernel_rfl) (by kernel_rfl) hx8 [2, 3] (L' := [(2, .pointer (some (⟨g2, 0, none⟩ : Addr))), (3, .pointer (some (⟨g6, 0, none⟩ : Addr)))]) (by kernel_rfl) ?_
 clear hs; intro a hs
 refine go_pvs 2 3 [2, 3] hs (L' := [(2, .pointer (some (⟨g2, 0, none⟩ : Addr))), (3, .pointer (some (⟨g6, 0, none⟩ : Addr)))]) (by kernel_rfl) ?_ rfl
 clear hs; intro a hs
 refine go_end (by kernel_rfl) ?_
 refine hK1 _ _ ?_
 refine go_seq_k fun K10 hK10 => ?_
 refine go_region ?_
 obtain ⟨t12, hx13, H⟩ := bind_some H
 refine go_call hs (op := (Op.call { callee := (Callee.value (Operand.func 13)), args := #[], argTypes := #[] })) (ty := 4) (dst := some 8) (g := none) (by kernel_rfl) (by kernel_rfl) (by kernel_rfl) (f := 13) (args := #[]) (by kernel_rfl) (rivetlaw09_shown.calls t12 _ hx13) ?_
 rintro e wd14 ⟨rfl, hw15⟩
 refine ⟨_, rfl, ?_⟩
 replace hw := hw.call hw15
 intro a hs1
 replace hs : Slots a 51 [(2, .pointer (some (⟨g2, 0, none⟩ : Addr))), (3, .pointer (some (⟨g6, 0, none⟩ : Addr))), (8, .bool t12)] := hs1.keep [2, 3, 8] (by kernel_rfl)
 clear hs1
 refine go_pvs 1 2 [2, 3, 5] hs (L' := [(2, .pointer (some (⟨g2, 0, none⟩ : Addr))), (3, .pointer (some (⟨g6, 0, none⟩ : Addr))), (5, .bool t12)]) (by kernel_rfl) ?_ rfl
 clear hs; intro a hs
 refine go_end (by kernel_rfl) ?_
 refine hK10 _ _ ?_
 refine go_seq_k fun K16 hK16 => ?_
 refine go_region ?_
 refine go_run hs (op := (Op.load 26 (Operand.tmp 2))) (ty := 26) (dst := some 9) (g := none) (by kernel_rfl) (by kernel_rfl) (by kernel_rfl) (x_blds (g := g2) (o := 0) (p := (⟨g2, 0, none⟩ : Addr)) (vs := [.slice A0_1 a0.Words.length c0_1, .slice A0_2 a0.Sites.length c0_2, .slice A0_3 a0.Syms.length c0_3]) (hw.up 1) (by kernel_rfl) rfl (by kernel_rfl) (by kernel_rfl) (by kernel_rfl)) [3, 5, 9] (L' := [(3, .pointer (some (⟨g6, 0, none⟩ : Addr))), (5, .bool t12), (9, .agg #[.slice A0_1 a0.Words.length c0_1, .slice A0_2 a0.Sites.length c0_2, .slice A0_3 a0.Syms.length c0_3])]) (by kernel_rfl) ?_
 clear hs; intro a hs
 refine go_inline_k hs (op := (Op.call { callee := (Callee.value (Operand.func 14)), args := #[(Operand.tmp 9)], argTypes := #[26] })) (ty := 26) (dst := some 10) (g := none) (by kernel_rfl) (by kernel_rfl) (by kernel_rfl) (f := 14) (args := #[.agg #[.slice A0_1 a0.Words.length c0_1, .slice A0_2 a0.Sites.length c0_2, .slice A0_3 a0.Syms.length c0_3]]) (by kernel_rfl) (fun KR17 hKR17 => ?_)
 refine go_fn Tryd.func14 rfl 52 Tryd.ntmps14 [(0, .agg #[.slice A0_1 a0.Words.length c0_1, .slice A0_2 a0.Sites.length c0_2, .slice A0_3 a0.Syms.length c0_3])] (by kernel_rfl) rfl ?_
 clear hs; intro a hs
 refine go_seq_k fun K18 hK18 => ?_
 refine go_region ?_
 obtain ⟨g19, wd20, hx21, hw⟩ := x_boxc (P := Tryd.prog) (elem := 26) (v := (Operand.tmp 0)) (ty := 0) (cs := [.slice A0_1 a0.Words.length c0_1, .slice A0_2 a0.Sites.length c0_2, .slice A0_3 a0.Syms.length c0_3]) hs hw (by kernel_rfl)
 refine go_run hs (op := (Op.box 26 (Operand.tmp 0))) (ty := 0) (dst := some 1) (g := none) (by kernel_rfl) (by kernel_rfl) (by kernel_rfl) hx21 [1] (L' := [(1, .pointer (some (⟨g19, 0, none⟩ : Addr)))]) (by kernel_rfl) ?_
 clear hs; intro a hs
 obtain ⟨g23, wd24, hx25, hw⟩ := x_allocc (P := Tryd.prog) (elem := 26) (ty := 0) (z := .agg #[.slice none 0 0, .slice none 0 0, .slice none 0 0]) (cs := [.slice none 0 0, .slice none 0 0, .slice none 0 0]) hs hw (by kernel_rfl) (by kernel_rfl)
 refine go_run hs (op := (Op.alloc 26)) (ty := 0) (dst := some 2) (g := none) (by kernel_rfl) (by kernel_rfl) (by kernel_rfl) hx25 [1, 2] (L' := [(1, .pointer (some (⟨g19, 0, none⟩ : Addr))), (2, .pointer (some (⟨g23, 0, none⟩ : Addr)))]) (by kernel_rfl) ?_
 clear hs; intro a hs
 replace hw := St.own_nil hw 37 (eI .u32)
 replace hw := St.own_nil hw 3 (eI .i64)
 replace hw := St.own_nil hw 39 eSapi_Sym
 replace hw : St [] w0 wd24 [own 39 eSapi_Sym none 0 ([] : List Sapi_Sym), own 3 (eI .i64) none 0 ([] : List Int), own 37 (eI .u32) none 0 ([] : List Int), box g23 26 [.slice none ([] : List Int).length 0, .slice none ([] : List Int).length 0, .slice none ([] : List Sapi_Sym).length 0], box g19 26 [.slice A0_1 a0.Words.length c0_1, .slice A0_2 a0.Sites.length c0_2, .slice A0_3 a0.Syms.length c0_3], box g6 26 [.slice A1_1 a1.Words.length c1_1, .slice A1_2 a1.Sites.length c1_2, .slice A1_3 a1.Syms.length c1_3], box g2 26 [.slice A0_1 a0.Words.length c0_1, .slice A0_2 a0.Sites.length c0_2, .slice A0_3 a0.Syms.length c0_3]] := hw
 refine go_end (by kernel_rfl) ?_
 refine hK18 _ _ ?_
 refine go_seq_k fun K30 hK30 => ?_
 refine d_region [16] [(true, [0, 1, 2, 3, 4, 5, 6, 7, 8, 9, 10, 11, 12, 13, 14], 15), (true, [], 16)] [] (by kernel_rfl) (by kernel_rfl) (fun c a d v w h => by cases d <;> exact h) ?_
 refine d_seg ?_
 refine c_pvs [0] [1, 2, 3, 4, 5, 6, 7, 8, 9, 10, 11, 12, 13, 14] [1, 2, 6] hs (L' := [(1, .pointer (some (⟨g19, 0, none⟩ : Addr))), (2, .pointer (some (⟨g23, 0, none⟩ : Addr))), (6, .pointer (some (((⟨g19, 0, none⟩ : Addr) : Addr).add 0)))]) (by kernel_rfl) ?_ (by kernel_rfl)
 clear hs; intro a hs
 refine d_run hs (op := (Op.load 22 (Operand.tmp 6))) (ty := 22) (dst := some 7) (g := none) (by kernel_rfl) (by kernel_rfl) (by kernel_rfl) (fun wx hbx => (x_bldD (g := g19) (o := 0) (p := ((⟨g19, 0, none⟩ : Addr) : Addr).add 0) (v := .slice A0_1 a0.Words.length c0_1) (hw.up 4) hbx (by kernel_rfl) rfl (by kernel_rfl) (by kernel_rfl))) [1, 2, 7] (L' := [(1, .pointer (some (⟨g19, 0, none⟩ : Addr))), (2, .pointer (some (⟨g23, 0, none⟩ : Addr))), (7, .slice A0_1 a0.Words.length c0_1)]) (by kernel_rfl) ?_
 clear hs; intro a hs
 refine c_pvs [2] [3, 4, 5, 6, 7, 8, 9, 10, 11, 12, 13, 14] [1, 2, 7, 8] hs (L' := [(1, .pointer (some (⟨g19, 0, none⟩ : Addr))), (2, .pointer (some (⟨g23, 0, none⟩ : Addr))), (7, .slice A0_1 a0.Words.length c0_1), (8, .pointer (some (((⟨g19, 0, none⟩ : Addr) : Addr).add 0)))]) (by kernel_rfl) ?_ (by kernel_rfl)
 clear hs; intro a hs
 refine d_run hs (op := (Op.load 22 (Operand.tmp 8))) (ty := 22) (dst := some 9) (g := none) (by kernel_rfl) (by kernel_rfl) (by kernel_rfl) (fun wx hbx => (x_bldD (g := g19) (o := 0) (p := ((⟨g19, 0, none⟩ : Addr) : Addr).add 0) (v := .slice A0_1 a0.Words.length c0_1) (hw.up 4) hbx (by kernel_rfl) rfl (by kernel_rfl) (by kernel_rfl))) [1, 2, 7, 9] (L' := [(1, .pointer (some (⟨g19, 0, none⟩ : Addr))), (2, .pointer (some (⟨g23, 0, none⟩ : Addr))), (7, .slice A0_1 a0.Words.length c0_1), (9, .slice A0_1 a0.Words.length c0_1)]) (by kernel_rfl) ?_
 clear hs; intro a hs
 refine c_pvs [4, 5] [6, 7, 8, 9, 10, 11, 12, 13, 14] [1, 2, 7, 11] hs (L' := [(1, .pointer (some (⟨g19, 0, none⟩ : Addr))), (2, .pointer (some (⟨g23, 0, none⟩ : Addr))), (7, .slice A0_1 a0.Words.length c0_1), (11, .int .i64 (mnn (a0.Words.length : Int) 30))]) (by kernel_rfl) ?_ (by kernel_rfl)
 clear hs; intro a hs
 obtain ⟨hp31, H⟩ := ite_only H
 obtain ⟨Aa32, cc33, hx34, hc35⟩ := w_hi (P := Tryd.prog) (ty := 22) (E := (eI .u32)) (T := 37) (t := 22) (x := (Operand.tmp 7)) (y := (Operand.tmp 11)) (k := .i64) hs (by kernel_rfl) (by kernel_rfl) (hr0_1.old hw) (by kernel_rfl) (by kernel_rfl) hp31.1 hp31.2
 refine d_run hs (op := (Op.slice 22 (Operand.tmp 7) none (some (Operand.tmp 11)) none)) (ty := 22) (dst := some 12) (g := none) (by kernel_rfl) (by kernel_rfl) (by kernel_rfl) (fun wx hbx => (hx34 wx)) [1, 2, 12] (L' := [(1, .pointer (some (⟨g19, 0, none⟩ : Addr))), (2, .pointer (some (⟨g23, 0, none⟩ : Addr))), (12, .slice Aa32 (a0.Words.take (mnn (a0.Words.length : Int) 30 : Int).toNat).length cc33)]) (by kernel_rfl) ?_
 clear hs; intro a hs
 refine c_pvs [7] [8, 9, 10, 11, 12, 13, 14] [1, 2, 12, 13] hs (L' := [(1, .pointer (some (⟨g19, 0, none⟩ : Addr))), (2, .pointer (some (⟨g23, 0, none⟩ : Addr))), (12, .slice Aa32 (a0.Words.take (mnn (a0.Words.length : Int) 30 : Int).toNat).length cc33), (13, .pointer (some (((⟨g19, 0, none⟩ : Addr) : Addr).add 1)))]) (by kernel_rfl) ?_ (by kernel_rfl)
 clear hs; intro a hs
 refine d_run hs (op := (Op.load 23 (Operand.tmp 13))) (ty := 23) (dst := some 14) (g := none) (by kernel_rfl) (by kernel_rfl) (by kernel_rfl) (fun wx hbx => (x_bldD (g := g19) (o := 1) (p := ((⟨g19, 0, none⟩ : Addr) : Addr).add 1) (v := .slice A0_2 a0.Sites.length c0_2) (hw.up 4) hbx (by kernel_rfl) rfl (by kernel_rfl) (by kernel_rfl))) [1, 2, 12, 14] (L' := [(1, .pointer (some (⟨g19, 0, none⟩ : Addr))), (2, .pointer (some (⟨g23, 0, none⟩ : Addr))), (12, .slice Aa32 (a0.Words.take (mnn (a0.Words.length : Int) 30 : Int).toNat).length cc33), (14, .slice A0_2 a0.Sites.length c0_2)]) (by kernel_rfl) ?_
 clear hs; intro a hs
 refine c_pvs [9] [10, 11, 12, 13, 14] [1, 2, 12, 14, 15] hs (L' := [(1, .pointer (some (⟨g19, 0, none⟩ : Addr))), (2, .pointer (some (⟨g23, 0, none⟩ : Addr))), (12, .slice Aa32 (a0.Words.take (mnn (a0.Words.length : Int) 30 : Int).toNat).length cc33), (14, .slice A0_2 a0.Sites.length c0_2), (15, .pointer (some (((⟨g19, 0, none⟩ : Addr) : Addr).add 1)))]) (by kernel_rfl) ?_ (by kernel_rfl)
 clear hs; intro a hs
 refine d_run hs (op := (Op.load 23 (Operand.tmp 15))) (ty := 23) (dst := some 16) (g := none) (by kernel_rfl) (by kernel_rfl) (by kernel_rfl) (fun wx hbx => (x_bldD (g := g19) (o := 1) (p := ((⟨g19, 0, none⟩ : Addr) : Addr).add 1) (v := .slice A0_2 a0.Sites.length c0_2) (hw.up 4) hbx (by kernel_rfl) rfl (by kernel_rfl) (by kernel_rfl))) [1, 2, 12, 14, 16] (L' := [(1, .pointer (some (⟨g19, 0, none⟩ : Addr))), (2, .pointer (some (⟨g23, 0, none⟩ : Addr))), (12, .slice Aa32 (a0.Words.take (mnn (a0.Words.length : Int) 30 : Int).toNat).length cc33), (14, .slice A0_2 a0.Sites.length c0_2), (16, .slice A0_2 a0.Sites.length c0_2)]) (by kernel_rfl) ?_
 clear hs; intro a hs
 refine c_pvs [11, 12] [13, 14] [1, 2, 12, 14, 18] hs (L' := [(1, .pointer (some (⟨g19, 0, none⟩ : Addr))), (2, .pointer (some (⟨g23, 0, none⟩ : Addr))), (12, .slice Aa32 (a0.Words.take (mnn (a0.Words.length : Int) 30 : Int).toNat).length cc33), (14, .slice A0_2 a0.Sites.length c0_2), (18, .int .i64 (mnn (a0.Sites.length : Int) 30))]) (by kernel_rfl) ?_ (by kernel_rfl)
 clear hs; intro a hs
 obtain ⟨hp37, H⟩ := ite_only H
 obtain ⟨Aa38, cc39, hx40, hc41⟩ := w_hi (P := Tryd.prog) (ty := 23) (E := (eI .i64)) (T := 3) (t := 23) (x := (Operand.tmp 14)) (y := (Operand.tmp 18)) (k := .i64) hs (by kernel_rfl) (by kernel_rfl) (hr0_2.old hw) (by kernel_rfl) (by kernel_rfl) hp37.1 hp37.2
 refine d_run hs (op := (Op.slice 23 (Operand.tmp 14) none (some (Operand.tmp 18)) none)) (ty := 23) (dst := some 19) (g := none) (by kernel_rfl) (by kernel_rfl) (by kernel_rfl) (fun wx hbx => (hx40 wx)) [1, 2, 12, 19] (L' := [(1, .pointer (some (⟨g19, 0, none⟩ : Addr))), (2, .pointer (some (⟨g23, 0, none⟩ : Addr))), (12, .slice Aa32 (a0.Words.take (mnn (a0.Words.length : Int) 30 : Int).toNat).length cc33), (19, .slice Aa38 (a0.Sites.take (mnn (a0.Sites.length : Int) 30 : Int).toNat).length cc39)]) (by kernel_rfl) ?_
 clear hs; intro a hs
 refine c_pvs [14] [] [1, 2, 20] hs (L' := [(1, .pointer (some (⟨g19, 0, none⟩ : Addr))), (2, .pointer (some (⟨g23, 0, none⟩ : Addr))), (20, .agg #[.slice Aa32 (a0.Words.take (mnn (a0.Words.length : Int) 30 : Int).toNat).length cc33, .slice Aa38 (a0.Sites.take (mnn (a0.Sites.length : Int) 30 : Int).toNat).length cc39, .slice none 0 0])]) (by kernel_rfl) ?_ (by kernel_rfl)
 clear hs; intro a hs
 refine c_end ?_
 intro wq hbq
 replace hw := hw.behind hbq
 have hbc := Below.refl wq.heap.size wq
 obtain ⟨g43, wd44, hx45, hwn⟩ := x_allocc (P := Tryd.prog) (elem := 26) (ty := 0) (z := .agg #[.slice none 0 0, .slice none 0 0, .slice none 0 0]) (cs := [.slice none 0 0, .slice none 0 0, .slice none 0 0]) hs (nil_of hw) (by kernel_rfl) (by kernel_rfl)
 replace hbc := hwn.below
 replace hw := hw.call hwn
 clear hwn
 refine p_run hs (op := (Op.alloc 26)) (ty := 0) (dst := some 3) (g := none) (by kernel_rfl) (by kernel_rfl) (by kernel_rfl) hx45 [1, 2, 3, 20] (L' := [(1, .pointer (some (⟨g19, 0, none⟩ : Addr))), (2, .pointer (some (⟨g23, 0, none⟩ : Addr))), (3, .pointer (some (⟨g43, 0, none⟩ : Addr))), (20, .agg #[.slice Aa32 (a0.Words.take (mnn (a0.Words.length : Int) 30 : Int).toNat).length cc33, .slice Aa38 (a0.Sites.take (mnn (a0.Sites.length : Int) 30 : Int).toNat).length cc39, .slice none 0 0])]) (by kernel_rfl) ?_
 clear hs; intro a hs
 replace hw := St.own_nil hw 37 (eI .u32)
 replace hw := St.own_nil hw 3 (eI .i64)
 replace hw := St.own_nil hw 39 eSapi_Sym
 replace hw : St [] w0 wd44 [own 39 eSapi_Sym none 0 ([] : List Sapi_Sym), own 3 (eI .i64) none 0 ([] : List Int), own 37 (eI .u32) none 0 ([] : List Int), box g43 26 [.slice none ([] : List Int).length 0, .slice none ([] : List Int).length 0, .slice none ([] : List Sapi_Sym).length 0], own 39 eSapi_Sym none 0 ([] : List Sapi_Sym), own 3 (eI .i64) none 0 ([] : List Int), own 37 (eI .u32) none 0 ([] : List Int), box g23 26 [.slice none ([] : List Int).length 0, .slice none ([] : List Int).length 0, .slice none ([] : List Sapi_Sym).length 0], box g19 26 [.slice A0_1 a0.Words.length c0_1, .slice A0_2 a0.Sites.length c0_2, .slice A0_3 a0.Syms.length c0_3], box g6 26 [.slice A1_1 a1.Words.length c1_1, .slice A1_2 a1.Sites.length c1_2, .slice A1_3 a1.Syms.length c1_3], box g2 26 [.slice A0_1 a0.Words.length c0_1, .slice A0_2 a0.Sites.length c0_2, .slice A0_3 a0.Syms.length c0_3]] := hw
 refine c_done ⟨.inr (bn_of hbq hbc), ?_⟩
 clear hbc hbq
 refine d_seg ?_
 refine c_end ?_
 intro wq hbq
 replace hw := hw.behind hbq
 replace hw := hw.up 3
 obtain ⟨wd50, hx51, hw⟩ := x_bput (P := Tryd.prog) (ty := 0) (t := 26) (y := (Operand.tmp 3)) (z := (Operand.tmp 20)) (o := 0) (p := (⟨g43, 0, none⟩ : Addr)) (v := .agg #[.slice Aa32 (a0.Words.take (mnn (a0.Words.length : Int) 30 : Int).toNat).length cc33, .slice Aa38 (a0.Sites.take (mnn (a0.Sites.length : Int) 30 : Int).toNat).length cc39, .slice none 0 0]) (vs := [.slice Aa32 (a0.Words.take (mnn (a0.Words.length : Int) 30 : Int).toNat).length cc33, .slice Aa38 (a0.Sites.take (mnn (a0.Sites.length : Int) 30 : Int).toNat).length cc39, .slice none 0 0]) (cs' := [.slice Aa32 (a0.Words.take (mnn (a0.Words.length : Int) 30 : Int).toNat).length cc33, .slice Aa38 (a0.Sites.take (mnn (a0.Sites.length : Int) 30 : Int).toNat).length cc39, .slice none 0 0]) hs hw (by kernel_rfl) rfl (by kernel_rfl) rfl (by kernel_rfl) (by kernel_rfl) (by simp [Value.oneCell']) rfl
 refine p_unit hs (op := (Op.store 26 (Operand.tmp 3) (Operand.tmp 20))) (ty := 0) (dst := none) (g := none) (by kernel_rfl) (by kernel_rfl) (by kernel_rfl) hx51 [1, 2, 3] (L' := [(1, .pointer (some (⟨g19, 0, none⟩ : Addr))), (2, .pointer (some (⟨g23, 0, none⟩ : Addr))), (3, .pointer (some (⟨g43, 0, none⟩ : Addr)))]) (by kernel_rfl) ?_
 clear hs; intro a hs
 replace hw := St.own_nil hw 39 eSapi_Sym
 replace hw : St [] w0 wd50 [own 39 eSapi_Sym none 0 ([] : List Sapi_Sym), box g43 26 [.slice Aa32 (a0.Words.take (mnn (a0.Words.length : Int) 30 : Int).toNat).length cc33, .slice Aa38 (a0.Sites.take (mnn (a0.Sites.length : Int) 30 : Int).toNat).length cc39, .slice none ([] : List Sapi_Sym).length 0], own 39 eSapi_Sym none 0 ([] : List Sapi_Sym), own 3 (eI .i64) none 0 ([] : List Int), own 37 (eI .u32) none 0 ([] : List Int), own 39 eSapi_Sym none 0 ([] : List Sapi_Sym), own 3 (eI .i64) none 0 ([] : List Int), own 37 (eI .u32) none 0 ([] : List Int), box g23 26 [.slice none ([] : List Int).length 0, .slice none ([] : List Int).length 0, .slice none ([] : List Sapi_Sym).length 0], box g19 26 [.slice A0_1 a0.Words.length c0_1, .slice A0_2 a0.Sites.length c0_2, .slice A0_3 a0.Syms.length c0_3], box g6 26 [.slice A1_1 a1.Words.length c1_1, .slice A1_2 a1.Sites.length c1_2, .slice A1_3 a1.Syms.length c1_3], box g2 26 [.slice A0_1 a0.Words.length c0_1, .slice A0_2 a0.Sites.length c0_2, .slice A0_3 a0.Syms.length c0_3]] := hw
 refine c_done ⟨.inl (by kernel_rfl), ?_⟩
 clear hbq
 refine d_last ?_
 refine c_end ?_
 intro wq hbq
 replace hw := hw.behind hbq
 refine hK30 _ _ ?_
 refine go_seq_k fun K53 hK53 => ?_
 refine go_seq_k fun K54 hK54 => ?_
 refine go_region ?_
 refine go_pvs 0 1 [1, 2, 3, 4] hs (L' := [(1, .pointer (some (⟨g19, 0, none⟩ : Addr))), (2, .pointer (some (⟨g23, 0, none⟩ : Addr))), (3, .pointer (some (⟨g43, 0, none⟩ : Addr))), (4, .int .i64 0)]) (by kernel_rfl) ?_ rfl
 clear hs; intro a hs
 refine go_end (by kernel_rfl) ?_
 refine hK54 _ _ ?_
 refine wp_block ?_
 obtain ⟨e55, hl55, HX55⟩ := bind_some H
 have hJ3 : ∀ (Aa94 : Option Addr) (cc95 : Nat) (l93 : List Sapi_Sym) (a : Act) (w : World), Slots a 52 [(2, .pointer (some (⟨g23, 0, none⟩ : Addr))), (3, .pointer (some (⟨g43, 0, none⟩ : Addr)))] → St [] w0 w [own 39 eSapi_Sym Aa94 cc95 l93, box g43 26 [.slice Aa32 (a0.Words.take (mnn (a0.Words.length : Int) 30 : Int).toNat).length cc33, .slice Aa38 (a0.Sites.take (mnn (a0.Sites.length : Int) 30 : Int).toNat).length cc39, .slice Aa94 l93.length cc95], own 39 eSapi_Sym none 0 ([] : List Sapi_Sym), own 3 (eI .i64) none 0 ([] : List Int), own 37 (eI .u32) none 0 ([] : List Int), own 39 eSapi_Sym none 0 ([] : List Sapi_Sym), own 3 (eI .i64) none 0 ([] : List Int), own 37 (eI .u32) none 0 ([] : List Int), box g23 26 [.slice none ([] : List Int).length 0, .slice none ([] : List Int).length 0, .slice none ([] : List Sapi_Sym).length 0], box g19 26 [.slice A0_1 a0.Words.length c0_1, .slice A0_2 a0.Sites.length c0_2, .slice A0_3 a0.Syms.length c0_3], box g6 26 [.slice A1_1 a1.Words.length c1_1, .slice A1_2 a1.Sites.length c1_2, .slice A1_3 a1.Syms.length c1_3], box g2 26 [.slice A0_1 a0.Words.length c0_1, .slice A0_2 a0.Sites.length c0_2, .slice A0_3 a0.Syms.length c0_3]] → rivetlaw09_ObjectAll.j3 a1 t12 a0 l93 = some r → K53 a w := by
  intro Aa94 cc95 l93 a w hs hw H
  unfold rivetlaw09_ObjectAll.j3 at H
  refine hK53 _ _ ?_
  refine go_seq_k fun K96 hK96 => ?_
  refine go_region ?_
  refine go_run hs (op := (Op.load 26 (Operand.tmp 3))) (ty := 26) (dst := some 51) (g := none) (by kernel_rfl) (by kernel_rfl) (by kernel_rfl) (x_blds (g := g43) (o := 0) (p := (⟨g43, 0, none⟩ : Addr)) (vs := [.slice Aa32 (a0.Words.take (mnn (a0.Words.length : Int) 30 : Int).toNat).length cc33, .slice Aa38 (a0.Sites.take (mnn (a0.Sites.length : Int) 30 : Int).toNat).length cc39, .slice Aa94 l93.length cc95]) (hw.up 1) (by kernel_rfl) rfl (by kernel_rfl) (by kernel_rfl) (by kernel_rfl)) [2, 51] (L' := [(2, .pointer (some (⟨g23, 0, none⟩ : Addr))), (51, .agg #[.slice Aa32 (a0.Words.take (mnn (a0.Words.length : Int) 30 : Int).toNat).length cc33, .slice Aa38 (a0.Sites.take (mnn (a0.Sites.length : Int) 30 : Int).toNat).length cc39, .slice Aa94 l93.length cc95])]) (by kernel_rfl) ?_
  clear hs; intro a hs
  replace hw := hw.up 8
  obtain ⟨wd97, hx98, hw⟩ := x_bput (P := Tryd.prog) (ty := 0) (t := 26) (y := (Operand.tmp 2)) (z := (Operand.tmp 51)) (o := 0) (p := (⟨g23, 0, none⟩ : Addr)) (v := .agg #[.slice Aa32 (a0.Words.take (mnn (a0.Words.length : Int) 30 : Int).toNat).length cc33, .slice Aa38 (a0.Sites.take (mnn (a0.Sites.length : Int) 30 : Int).toNat).length cc39, .slice Aa94 l93.length cc95]) (vs := [.slice Aa32 (a0.Words.take (mnn (a0.Words.length : Int) 30 : Int).toNat).length cc33, .slice Aa38 (a0.Sites.take (mnn (a0.Sites.length : Int) 30 : Int).toNat).length cc39, .slice Aa94 l93.length cc95]) (cs' := [.slice Aa32 (a0.Words.take (mnn (a0.Words.length : Int) 30 : Int).toNat).length cc33, .slice Aa38 (a0.Sites.take (mnn (a0.Sites.length : Int) 30 : Int).toNat).length cc39, .slice Aa94 l93.length cc95]) hs hw (by kernel_rfl) rfl (by kernel_rfl) rfl (by kernel_rfl) (by kernel_rfl) (by simp [Value.oneCell']) rfl
  refine go_unit hs (op := (Op.store 26 (Operand.tmp 2) (Operand.tmp 51))) (ty := 0) (dst := none) (g := none) (by kernel_rfl) (by kernel_rfl) (by kernel_rfl) hx98 [2] (L' := [(2, .pointer (some (⟨g23, 0, none⟩ : Addr)))]) (by kernel_rfl) ?_
  clear hs; intro a hs
  refine go_end (by kernel_rfl) ?_
  refine hK96 _ _ ?_
  refine wp_ret ?_
  refine ret1g (L := [(2, .pointer (some (⟨g23, 0, none⟩ : Addr)))]) (r1 := .cell 2 26) (v1 := .agg #[.slice Aa32 (a0.Words.take (mnn (a0.Words.length : Int) 30 : Int).toNat).length cc33, .slice Aa38 (a0.Sites.take (mnn (a0.Sites.length : Int) 30 : Int).toNat).length cc39, .slice Aa94 l93.length cc95]) hs (by kernel_rfl) ⟨_, (show lk 2 [(2, .pointer (some (⟨g23, 0, none⟩ : Addr)))] = some (.pointer (some (⟨g23, 0, none⟩ : Addr))) by kernel_rfl), lvb_row (hw.up 0) (by kernel_rfl) (by kernel_rfl) (by kernel_rfl)⟩ ?_
  refine ⟨_, rfl, ?_⟩
  refine hKR17 _ _ ?_
  intro a hs1
  have hs : Slots a _ [(3, .pointer (some (⟨g6, 0, none⟩ : Addr))), (5, .bool t12), (10, .agg #[.slice Aa32 (a0.Words.take (mnn (a0.Words.length : Int) 30 : Int).toNat).length cc33, .slice Aa38 (a0.Sites.take (mnn (a0.Sites.length : Int) 30 : Int).toNat).length cc39, .slice Aa94 l93.length cc95])] := hs1.keep [3, 5, 10] (by kernel_rfl)
  clear hs1
  obtain ⟨g99, wd100, hx101, hw⟩ := x_allocc (P := Tryd.prog) (elem := 26) (ty := 0) (z := .agg #[.slice none 0 0, .slice none 0 0, .slice none 0 0]) (cs := [.slice none 0 0, .slice none 0 0, .slice none 0 0]) hs hw (by kernel_rfl) (by kernel_rfl)
  refine go_run hs (op := (Op.alloc 26)) (ty := 0) (dst := some 6) (g := none) (by kernel_rfl) (by kernel_rfl) (by kernel_rfl) hx101 [3, 5, 6, 10] (L' := [(3, .pointer (some (⟨g6, 0, none⟩ : Addr))), (5, .bool t12), (6, .pointer (some (⟨g99, 0, none⟩ : Addr))), (10, .agg #[.slice Aa32 (a0.Words.take (mnn (a0.Words.length : Int) 30 : Int).toNat).length cc33, .slice Aa38 (a0.Sites.take (mnn (a0.Sites.length : Int) 30 : Int).toNat).length cc39, .slice Aa94 l93.length cc95])]) (by kernel_rfl) ?_
  clear hs; intro a hs
  replace hw := St.own_nil hw 37 (eI .u32)
  replace hw := St.own_nil hw 3 (eI .i64)
  replace hw := St.own_nil hw 39 eSapi_Sym
  replace hw : St [] w0 wd100 [own 39 eSapi_Sym none 0 ([] : List Sapi_Sym), own 3 (eI .i64) none 0 ([] : List Int), own 37 (eI .u32) none 0 ([] : List Int), box g99 26 [.slice none ([] : List Int).length 0, .slice none ([] : List Int).length 0, .slice none ([] : List Sapi_Sym).length 0], box g23 26 [.slice Aa32 (a0.Words.take (mnn (a0.Words.length : Int) 30 : Int).toNat).length cc33, .slice Aa38 (a0.Sites.take (mnn (a0.Sites.length : Int) 30 : Int).toNat).length cc39, .slice Aa94 l93.length cc95], own 39 eSapi_Sym Aa94 cc95 l93, box g43 26 [.slice Aa32 (a0.Words.take (mnn (a0.Words.length : Int) 30 : Int).toNat).length cc33, .slice Aa38 (a0.Sites.take (mnn (a0.Sites.length : Int) 30 : Int).toNat).length cc39, .slice Aa94 l93.length cc95], own 39 eSapi_Sym none 0 ([] : List Sapi_Sym), own 3 (eI .i64) none 0 ([] : List Int), own 37 (eI .u32) none 0 ([] : List Int), own 39 eSapi_Sym none 0 ([] : List Sapi_Sym), own 3 (eI .i64) none 0 ([] : List Int), own 37 (eI .u32) none 0 ([] : List Int), box g19 26 [.slice A0_1 a0.Words.length c0_1, .slice A0_2 a0.Sites.length c0_2, .slice A0_3 a0.Syms.length c0_3], box g6 26 [.slice A1_1 a1.Words.length c1_1, .slice A1_2 a1.Sites.length c1_2, .slice A1_3 a1.Syms.length c1_3], box g2 26 [.slice A0_1 a0.Words.length c0_1, .slice A0_2 a0.Sites.length c0_2, .slice A0_3 a0.Syms.length c0_3]] := hw
  replace hw := hw.up 3
  obtain ⟨wd106, hx107, hw⟩ := x_bput (P := Tryd.prog) (ty := 0) (t := 26) (y := (Operand.tmp 6)) (z := (Operand.tmp 10)) (o := 0) (p := (⟨g99, 0, none⟩ : Addr)) (v := .agg #[.slice Aa32 (a0.Words.take (mnn (a0.Words.length : Int) 30 : Int).toNat).length cc33, .slice Aa38 (a0.Sites.take (mnn (a0.Sites.length : Int) 30 : Int).toNat).length cc39, .slice Aa94 l93.length cc95]) (vs := [.slice Aa32 (a0.Words.take (mnn (a0.Words.length : Int) 30 : Int).toNat).length cc33, .slice Aa38 (a0.Sites.take (mnn (a0.Sites.length : Int) 30 : Int).toNat).length cc39, .slice Aa94 l93.length cc95]) (cs' := [.slice Aa32 (a0.Words.take (mnn (a0.Words.length : Int) 30 : Int).toNat).length cc33, .slice Aa38 (a0.Sites.take (mnn (a0.Sites.length : Int) 30 : Int).toNat).length cc39, .slice Aa94 l93.length cc95]) hs hw (by kernel_rfl) rfl (by kernel_rfl) rfl (by kernel_rfl) (by kernel_rfl) (by simp [Value.oneCell']) rfl
  refine go_unit hs (op := (Op.store 26 (Operand.tmp 6) (Operand.tmp 10))) (ty := 0) (dst := none) (g := none) (by kernel_rfl) (by kernel_rfl) (by kernel_rfl) hx107 [3, 5, 6] (L' := [(3, .pointer (some (⟨g6, 0, none⟩ : Addr))), (5, .bool t12), (6, .pointer (some (⟨g99, 0, none⟩ : Addr)))]) (by kernel_rfl) ?_
  clear hs; intro a hs
  refine go_end (by kernel_rfl) ?_
  refine hK16 _ _ ?_
  refine go_seq_k fun K108 hK108 => ?_
  refine go_region ?_
  refine go_run hs (op := (Op.load 26 (Operand.tmp 3))) (ty := 26) (dst := some 11) (g := none) (by kernel_rfl) (by kernel_rfl) (by kernel_rfl) (x_blds (g := g6) (o := 0) (p := (⟨g6, 0, none⟩ : Addr)) (vs := [.slice A1_1 a1.Words.length c1_1, .slice A1_2 a1.Sites.length c1_2, .slice A1_3 a1.Syms.length c1_3]) (hw.up 14) (by kernel_rfl) rfl (by kernel_rfl) (by kernel_rfl) (by kernel_rfl)) [5, 6, 11] (L' := [(5, .bool t12), (6, .pointer (some (⟨g99, 0, none⟩ : Addr))), (11, .agg #[.slice A1_1 a1.Words.length c1_1, .slice A1_2 a1.Sites.length c1_2, .slice A1_3 a1.Syms.length c1_3])]) (by kernel_rfl) ?_
  clear hs; intro a hs
  refine go_inline_k hs (op := (Op.call { callee := (Callee.value (Operand.func 14)), args := #[(Operand.tmp 11)], argTypes := #[26] })) (ty := 26) (dst := some 12) (g := none) (by kernel_rfl) (by kernel_rfl) (by kernel_rfl) (f := 14) (args := #[.agg #[.slice A1_1 a1.Words.length c1_1, .slice A1_2 a1.Sites.length c1_2, .slice A1_3 a1.Syms.length c1_3]]) (by kernel_rfl) (fun KR109 hKR109 => ?_)
  refine go_fn Tryd.func14 rfl 52 Tryd.ntmps14 [(0, .agg #[.slice A1_1 a1.Words.length c1_1, .slice A1_2 a1.Sites.length c1_2, .slice A1_3 a1.Syms.length c1_3])] (by kernel_rfl) rfl ?_
  clear hs; intro a hs
  refine go_seq_k fun K110 hK110 => ?_
  refine go_region ?_
  obtain ⟨g111, wd112, hx113, hw⟩ := x_boxc (P := Tryd.prog) (elem := 26) (v := (Operand.tmp 0)) (ty := 0) (cs := [.slice A1_1 a1.Words.length c1_1, .slice A1_2 a1.Sites.length c1_2, .slice A1_3 a1.Syms.length c1_3]) hs hw (by kernel_rfl)
  refine go_run hs (op := (Op.box 26 (Operand.tmp 0))) (ty := 0) (dst := some 1) (g := none) (by kernel_rfl) (by kernel_rfl) (by kernel_rfl) hx113 [1] (L' := [(1, .pointer (some (⟨g111, 0, none⟩ : Addr)))]) (by kernel_rfl) ?_
  clear hs; intro a hs
  obtain ⟨g115, wd116, hx117, hw⟩ := x_allocc (P := Tryd.prog) (elem := 26) (ty := 0) (z := .agg #[.slice none 0 0, .slice none 0 0, .slice none 0 0]) (cs := [.slice none 0 0, .slice none 0 0, .slice none 0 0]) hs hw (by kernel_rfl) (by kernel_rfl)
  refine go_run hs (op := (Op.alloc 26)) (ty := 0) (dst := some 2) (g := none) (by kernel_rfl) (by kernel_rfl) (by kernel_rfl) hx117 [1, 2] (L' := [(1, .pointer (some (⟨g111, 0, none⟩ : Addr))), (2, .pointer (some (⟨g115, 0, none⟩ : Addr)))]) (by kernel_rfl) ?_
  clear hs; intro a hs
  replace hw := St.own_nil hw 37 (eI .u32)
  replace hw := St.own_nil hw 3 (eI .i64)
  replace hw := St.own_nil hw 39 eSapi_Sym
  replace hw : St [] w0 wd116 [own 39 eSapi_Sym none 0 ([] : List Sapi_Sym), own 3 (eI .i64) none 0 ([] : List Int), own 37 (eI .u32) none 0 ([] : List Int), box g115 26 [.slice none ([] : List Int).length 0, .slice none ([] : List Int).length 0, .slice none ([] : List Sapi_Sym).length 0], box g111 26 [.slice A1_1 a1.Words.length c1_1, .slice A1_2 a1.Sites.length c1_2, .slice A1_3 a1.Syms.length c1_3], box g99 26 [.slice Aa32 (a0.Words.take (mnn (a0.Words.length : Int) 30 : Int).toNat).length cc33, .slice Aa38 (a0.Sites.take (mnn (a0.Sites.length : Int) 30 : Int).toNat).length cc39, .slice Aa94 l93.length cc95], own 39 eSapi_Sym none 0 ([] : List Sapi_Sym), own 3 (eI .i64) none 0 ([] : List Int), own 37 (eI .u32) none 0 ([] : List Int), box g23 26 [.slice Aa32 (a0.Words.take (mnn (a0.Words.length : Int) 30 : Int).toNat).length cc33, .slice Aa38 (a0.Sites.take (mnn (a0.Sites.length : Int) 30 : Int).toNat).length cc39, .slice Aa94 l93.length cc95], own 39 eSapi_Sym Aa94 cc95 l93, box g43 26 [.slice Aa32 (a0.Words.take (mnn (a0.Words.length : Int) 30 : Int).toNat).length cc33, .slice Aa38 (a0.Sites.take (mnn (a0.Sites.length : Int) 30 : Int).toNat).length cc39, .slice Aa94 l93.length cc95], own 39 eSapi_Sym none 0 ([] : List Sapi_Sym), own 3 (eI .i64) none 0 ([] : List Int), own 37 (eI .u32) none 0 ([] : List Int), own 39 eSapi_Sym none 0 ([] : List Sapi_Sym), own 3 (eI .i64) none 0 ([] : List Int), own 37 (eI .u32) none 0 ([] : List Int), box g19 26 [.slice A0_1 a0.Words.length c0_1, .slice A0_2 a0.Sites.length c0_2, .slice A0_3 a0.Syms.length c0_3], box g6 26 [.slice A1_1 a1.Words.length c1_1, .slice A1_2 a1.Sites.length c1_2, .slice A1_3 a1.Syms.length c1_3], box g2 26 [.slice A0_1 a0.Words.length c0_1, .slice A0_2 a0.Sites.length c0_2, .slice A0_3 a0.Syms.length c0_3]] := hw
  refine go_end (by kernel_rfl) ?_
  refine hK110 _ _ ?_
  refine go_seq_k fun K122 hK122 => ?_
  refine d_region [16] [(true, [0, 1, 2, 3, 4, 5, 6, 7, 8, 9, 10, 11, 12, 13, 14], 15), (true, [], 16)] [] (by kernel_rfl) (by kernel_rfl) (fun c a d v w h => by cases d <;> exact h) ?_
  refine d_seg ?_
  refine c_pvs [0] [1, 2, 3, 4, 5, 6, 7, 8, 9, 10, 11, 12, 13, 14] [1, 2, 6] hs (L' := [(1, .pointer (some (⟨g111, 0, none⟩ : Addr))), (2, .pointer (some (⟨g115, 0, none⟩ : Addr))), (6, .pointer (some (((⟨g111, 0, none⟩ : Addr) : Addr).add 0)))]) (by kernel_rfl) ?_ (by kernel_rfl)
  clear hs; intro a hs
  refine d_run hs (op := (Op.load 22 (Operand.tmp 6))) (ty := 22) (dst := some 7) (g := none) (by kernel_rfl) (by kernel_rfl) (by kernel_rfl) (fun wx hbx => (x_bldD (g := g111) (o := 0) (p := ((⟨g111, 0, none⟩ : Addr) : Addr).add 0) (v := .slice A1_1 a1.Words.length c1_1) (hw.up 4) hbx (by kernel_rfl) rfl (by kernel_rfl) (by kernel_rfl))) [1, 2, 7] (L' := [(1, .pointer (some (⟨g111, 0, none⟩ : Addr))), (2, .pointer (some (⟨g115, 0, none⟩ : Addr))), (7, .slice A1_1 a1.Words.length c1_1)]) (by kernel_rfl) ?_
  clear hs; intro a hs
  refine c_pvs [2] [3, 4, 5, 6, 7, 8, 9, 10, 11, 12, 13, 14] [1, 2, 7, 8] hs (L' := [(1, .pointer (some (⟨g111, 0, none⟩ : Addr))), (2, .pointer (some (⟨g115, 0, none⟩ : Addr))), (7, .slice A1_1 a1.Words.length c1_1), (8, .pointer (some (((⟨g111, 0, none⟩ : Addr) : Addr).add 0)))]) (by kernel_rfl) ?_ (by kernel_rfl)
  clear hs; intro a hs
  refine d_run hs (op := (Op.load 22 (Operand.tmp 8))) (ty := 22) (dst := some 9) (g := none) (by kernel_rfl) (by kernel_rfl) (by kernel_rfl) (fun wx hbx => (x_bldD (g := g111) (o := 0) (p := ((⟨g111, 0, none⟩ : Addr) : Addr).add 0) (v := .slice A1_1 a1.Words.length c1_1) (hw.up 4) hbx (by kernel_rfl) rfl (by kernel_rfl) (by kernel_rfl))) [1, 2, 7, 9] (L' := [(1, .pointer (some (⟨g111, 0, none⟩ : Addr))), (2, .pointer (some (⟨g115, 0, none⟩ : Addr))), (7, .slice A1_1 a1.Words.length c1_1), (9, .slice A1_1 a1.Words.length c1_1)]) (by kernel_rfl) ?_
  clear hs; intro a hs
  refine c_pvs [4, 5] [6, 7, 8, 9, 10, 11, 12, 13, 14] [1, 2, 7, 11] hs (L' := [(1, .pointer (some (⟨g111, 0, none⟩ : Addr))), (2, .pointer (some (⟨g115, 0, none⟩ : Addr))), (7, .slice A1_1 a1.Words.length c1_1), (11, .int .i64 (mnn (a1.Words.length : Int) 30))]) (by kernel_rfl) ?_ (by kernel_rfl)
  clear hs; intro a hs
  obtain ⟨hp123, H⟩ := ite_only H
  obtain ⟨Aa124, cc125, hx126, hc127⟩ := w_hi (P := Tryd.prog) (ty := 22) (E := (eI .u32)) (T := 37) (t := 22) (x := (Operand.tmp 7)) (y := (Operand.tmp 11)) (k := .i64) hs (by kernel_rfl) (by kernel_rfl) (hr1_1.old hw) (by kernel_rfl) (by kernel_rfl) hp123.1 hp123.2
  refine d_run hs (op := (Op.slice 22 (Operand.tmp 7) none (some (Operand.tmp 11)) none)) (ty := 22) (dst := some 12) (g := none) (by kernel_rfl) (by kernel_rfl) (by kernel_rfl) (fun wx hbx => (hx126 wx)) [1, 2, 12] (L' := [(1, .pointer (some (⟨g111, 0, none⟩ : Addr))), (2, .pointer (some (⟨g115, 0, none⟩ : Addr))), (12, .slice Aa124 (a1.Words.take (mnn (a1.Words.length : Int) 30 : Int).toNat).length cc125)]) (by kernel_rfl) ?_
  clear hs; intro a hs
  refine c_pvs [7] [8, 9, 10, 11, 12, 13, 14] [1, 2, 12, 13] hs (L' := [(1, .pointer (some (⟨g111, 0, none⟩ : Addr))), (2, .pointer (some (⟨g115, 0, none⟩ : Addr))), (12, .slice Aa124 (a1.Words.take (mnn (a1.Words.length : Int) 30 : Int).toNat).length cc125), (13, .pointer (some (((⟨g111, 0, none⟩ : Addr) : Addr).add 1)))]) (by kernel_rfl) ?_ (by kernel_rfl)
  clear hs; intro a hs
  refine d_run hs (op := (Op.load 23 (Operand.tmp 13))) (ty := 23) (dst := some 14) (g := none) (by kernel_rfl) (by kernel_rfl) (by kernel_rfl) (fun wx hbx => (x_bldD (g := g111) (o := 1) (p := ((⟨g111, 0, none⟩ : Addr) : Addr).add 1) (v := .slice A1_2 a1.Sites.length c1_2) (hw.up 4) hbx (by kernel_rfl) rfl (by kernel_rfl) (by kernel_rfl))) [1, 2, 12, 14] (L' := [(1, .pointer (some (⟨g111, 0, none⟩ : Addr))), (2, .pointer (some (⟨g115, 0, none⟩ : Addr))), (12, .slice Aa124 (a1.Words.take (mnn (a1.Words.length : Int) 30 : Int).toNat).length cc125), (14, .slice A1_2 a1.Sites.length c1_2)]) (by kernel_rfl) ?_
  clear hs; intro a hs
  refine c_pvs [9] [10, 11, 12, 13, 14] [1, 2, 12, 14, 15] hs (L' := [(1, .pointer (some (⟨g111, 0, none⟩ : Addr))), (2, .pointer (some (⟨g115, 0, none⟩ : Addr))), (12, .slice Aa124 (a1.Words.take (mnn (a1.Words.length : Int) 30 : Int).toNat).length cc125), (14, .slice A1_2 a1.Sites.length c1_2), (15, .pointer (some (((⟨g111, 0, none⟩ : Addr) : Addr).add 1)))]) (by kernel_rfl) ?_ (by kernel_rfl)
  clear hs; intro a hs
  refine d_run hs (op := (Op.load 23 (Operand.tmp 15))) (ty := 23) (dst := some 16) (g := none) (by kernel_rfl) (by kernel_rfl) (by kernel_rfl) (fun wx hbx => (x_bldD (g := g111) (o := 1) (p := ((⟨g111, 0, none⟩ : Addr) : Addr).add 1) (v := .slice A1_2 a1.Sites.length c1_2) (hw.up 4) hbx (by kernel_rfl) rfl (by kernel_rfl) (by kernel_rfl))) [1, 2, 12, 14, 16] (L' := [(1, .pointer (some (⟨g111, 0, none⟩ : Addr))), (2, .pointer (some (⟨g115, 0, none⟩ : Addr))), (12, .slice Aa124 (a1.Words.take (mnn (a1.Words.length : Int) 30 : Int).toNat).length cc125), (14, .slice A1_2 a1.Sites.length c1_2), (16, .slice A1_2 a1.Sites.length c1_2)]) (by kernel_rfl) ?_
  clear hs; intro a hs
  refine c_pvs [11, 12] [13, 14] [1, 2, 12, 14, 18] hs (L' := [(1, .pointer (some (⟨g111, 0, none⟩ : Addr))), (2, .pointer (some (⟨g115, 0, none⟩ : Addr))), (12, .slice Aa124 (a1.Words.take (mnn (a1.Words.length : Int) 30 : Int).toNat).length cc125), (14, .slice A1_2 a1.Sites.length c1_2), (18, .int .i64 (mnn (a1.Sites.length : Int) 30))]) (by kernel_rfl) ?_ (by kernel_rfl)
  clear hs; intro a hs
  obtain ⟨hp129, H⟩ := ite_only H
  obtain ⟨Aa130, cc131, hx132, hc133⟩ := w_hi (P := Tryd.prog) (ty := 23) (E := (eI .i64)) (T := 3) (t := 23) (x := (Operand.tmp 14)) (y := (Operand.tmp 18)) (k := .i64) hs (by kernel_rfl) (by kernel_rfl) (hr1_2.old hw) (by kernel_rfl) (by kernel_rfl) hp129.1 hp129.2
  refine d_run hs (op := (Op.slice 23 (Operand.tmp 14) none (some (Operand.tmp 18)) none)) (ty := 23) (dst := some 19) (g := none) (by kernel_rfl) (by kernel_rfl) (by kernel_rfl) (fun wx hbx => (hx132 wx)) [1, 2, 12, 19] (L' := [(1, .pointer (some (⟨g111, 0, none⟩ : Addr))), (2, .pointer (some (⟨g115, 0, none⟩ : Addr))), (12, .slice Aa124 (a1.Words.take (mnn (a1.Words.length : Int) 30 : Int).toNat).length cc125), (19, .slice Aa130 (a1.Sites.take (mnn (a1.Sites.length : Int) 30 : Int).toNat).length cc131)]) (by kernel_rfl) ?_
  clear hs; intro a hs
  refine c_pvs [14] [] [1, 2, 20] hs (L' := [(1, .pointer (some (⟨g111, 0, none⟩ : Addr))), (2, .pointer (some (⟨g115, 0, none⟩ : Addr))), (20, .agg #[.slice Aa124 (a1.Words.take (mnn (a1.Words.length : Int) 30 : Int).toNat).length cc125, .slice Aa130 (a1.Sites.take (mnn (a1.Sites.length : Int) 30 : Int).toNat).length cc131, .slice none 0 0])]) (by kernel_rfl) ?_ (by kernel_rfl)
  clear hs; intro a hs
  refine c_end ?_
  intro wq hbq
  replace hw := hw.behind hbq
  have hbc := Below.refl wq.heap.size wq
  obtain ⟨g135, wd136, hx137, hwn⟩ := x_allocc (P := Tryd.prog) (elem := 26) (ty := 0) (z := .agg #[.slice none 0 0, .slice none 0 0, .slice none 0 0]) (cs := [.slice none 0 0, .slice none 0 0, .slice none 0 0]) hs (nil_of hw) (by kernel_rfl) (by kernel_rfl)
  replace hbc := hwn.below
  replace hw := hw.call hwn
  clear hwn
  refine p_run hs (op := (Op.alloc 26)) (ty := 0) (dst := some 3) (g := none) (by kernel_rfl) (by kernel_rfl) (by kernel_rfl) hx137 [1, 2, 3, 20] (L' := [(1, .pointer (some (⟨g111, 0, none⟩ : Addr))), (2, .pointer (some (⟨g115, 0, none⟩ : Addr))), (3, .pointer (some (⟨g135, 0, none⟩ : Addr))), (20, .agg #[.slice Aa124 (a1.Words.take (mnn (a1.Words.length : Int) 30 : Int).toNat).length cc125, .slice Aa130 (a1.Sites.take (mnn (a1.Sites.length : Int) 30 : Int).toNat).length cc131, .slice none 0 0])]) (by kernel_rfl) ?_
  clear hs; intro a hs
  replace hw := St.own_nil hw 37 (eI .u32)
  replace hw := St.own_nil hw 3 (eI .i64)
  replace hw := St.own_nil hw 39 eSapi_Sym
  replace hw : St [] w0 wd136 [own 39 eSapi_Sym none 0 ([] : List Sapi_Sym), own 3 (eI .i64) none 0 ([] : List Int), own 37 (eI .u32) none 0 ([] : List Int), box g135 26 [.slice none ([] : List Int).length 0, .slice none ([] : List Int).length 0, .slice none ([] : List Sapi_Sym).length 0], own 39 eSapi_Sym none 0 ([] : List Sapi_Sym), own 3 (eI .i64) none 0 ([] : List Int), own 37 (eI .u32) none 0 ([] : List Int), box g115 26 [.slice none ([] : List Int).length 0, .slice none ([] : List Int).length 0, .slice none ([] : List Sapi_Sym).length 0], box g111 26 [.slice A1_1 a1.Words.length c1_1, .slice A1_2 a1.Sites.length c1_2, .slice A1_3 a1.Syms.length c1_3], box g99 26 [.slice Aa32 (a0.Words.take (mnn (a0.Words.length : Int) 30 : Int).toNat).length cc33, .slice Aa38 (a0.Sites.take (mnn (a0.Sites.length : Int) 30 : Int).toNat).length cc39, .slice Aa94 l93.length cc95], own 39 eSapi_Sym none 0 ([] : List Sapi_Sym), own 3 (eI .i64) none 0 ([] : List Int), own 37 (eI .u32) none 0 ([] : List Int), box g23 26 [.slice Aa32 (a0.Words.take (mnn (a0.Words.length : Int) 30 : Int).toNat).length cc33, .slice Aa38 (a0.Sites.take (mnn (a0.Sites.length : Int) 30 : Int).toNat).length cc39, .slice Aa94 l93.length cc95], own 39 eSapi_Sym Aa94 cc95 l93, box g43 26 [.slice Aa32 (a0.Words.take (mnn (a0.Words.length : Int) 30 : Int).toNat).length cc33, .slice Aa38 (a0.Sites.take (mnn (a0.Sites.length : Int) 30 : Int).toNat).length cc39, .slice Aa94 l93.length cc95], own 39 eSapi_Sym none 0 ([] : List Sapi_Sym), own 3 (eI .i64) none 0 ([] : List Int), own 37 (eI .u32) none 0 ([] : List Int), own 39 eSapi_Sym none 0 ([] : List Sapi_Sym), own 3 (eI .i64) none 0 ([] : List Int), own 37 (eI .u32) none 0 ([] : List Int), box g19 26 [.slice A0_1 a0.Words.length c0_1, .slice A0_2 a0.Sites.length c0_2, .slice A0_3 a0.Syms.length c0_3], box g6 26 [.slice A1_1 a1.Words.length c1_1, .slice A1_2 a1.Sites.length c1_2, .slice A1_3 a1.Syms.length c1_3], box g2 26 [.slice A0_1 a0.Words.length c0_1, .slice A0_2 a0.Sites.length c0_2, .slice A0_3 a0.Syms.length c0_3]] := hw
  refine c_done ⟨.inr (bn_of hbq hbc), ?_⟩
  clear hbc hbq
  refine d_seg ?_
  refine c_end ?_
  intro wq hbq
  replace hw := hw.behind hbq
  replace hw := hw.up 3
  obtain ⟨wd142, hx143, hw⟩ := x_bput (P := Tryd.prog) (ty := 0) (t := 26) (y := (Operand.tmp 3)) (z := (Operand.tmp 20)) (o := 0) (p := (⟨g135, 0, none⟩ : Addr)) (v := .agg #[.slice Aa124 (a1.Words.take (mnn (a1.Words.length : Int) 30 : Int).toNat).length cc125, .slice Aa130 (a1.Sites.take (mnn (a1.Sites.length : Int) 30 : Int).toNat).length cc131, .slice none 0 0]) (vs := [.slice Aa124 (a1.Words.take (mnn (a1.Words.length : Int) 30 : Int).toNat).length cc125, .slice Aa130 (a1.Sites.take (mnn (a1.Sites.length : Int) 30 : Int).toNat).length cc131, .slice none 0 0]) (cs' := [.slice Aa124 (a1.Words.take (mnn (a1.Words.length : Int) 30 : Int).toNat).length cc125, .slice Aa130 (a1.Sites.take (mnn (a1.Sites.length : Int) 30 : Int).toNat).length cc131, .slice none 0 0]) hs hw (by kernel_rfl) rfl (by kernel_rfl) rfl (by kernel_rfl) (by kernel_rfl) (by simp [Value.oneCell']) rfl
  refine p_unit hs (op := (Op.store 26 (Operand.tmp 3) (Operand.tmp 20))) (ty := 0) (dst := none) (g := none) (by kernel_rfl) (by kernel_rfl) (by kernel_rfl) hx143 [1, 2, 3] (L' := [(1, .pointer (some (⟨g111, 0, none⟩ : Addr))), (2, .pointer (some (⟨g115, 0, none⟩ : Addr))), (3, .pointer (some (⟨g135, 0, none⟩ : Addr)))]) (by kernel_rfl) ?_
  clear hs; intro a hs
  replace hw := St.own_nil hw 39 eSapi_Sym
  replace hw : St [] w0 wd142 [own 39 eSapi_Sym none 0 ([] : List Sapi_Sym), box g135 26 [.slice Aa124 (a1.Words.take (mnn (a1.Words.length : Int) 30 : Int).toNat).length cc125, .slice Aa130 (a1.Sites.take (mnn (a1.Sites.length : Int) 30 : Int).toNat).length cc131, .slice none ([] : List Sapi_Sym).length 0], own 39 eSapi_Sym none 0 ([] : List Sapi_Sym), own 3 (eI .i64) none 0 ([] : List Int), own 37 (eI .u32) none 0 ([] : List Int), own 39 eSapi_Sym none 0 ([] : List Sapi_Sym), own 3 (eI .i64) none 0 ([] : List Int), own 37 (eI .u32) none 0 ([] : List Int), box g115 26 [.slice none ([] : List Int).length 0, .slice none ([] : List Int).length 0, .slice none ([] : List Sapi_Sym).length 0], box g111 26 [.slice A1_1 a1.Words.length c1_1, .slice A1_2 a1.Sites.length c1_2, .slice A1_3 a1.Syms.length c1_3], box g99 26 [.slice Aa32 (a0.Words.take (mnn (a0.Words.length : Int) 30 : Int).toNat).length cc33, .slice Aa38 (a0.Sites.take (mnn (a0.Sites.length : Int) 30 : Int).toNat).length cc39, .slice Aa94 l93.length cc95], own 39 eSapi_Sym none 0 ([] : List Sapi_Sym), own 3 (eI .i64) none 0 ([] : List Int), own 37 (eI .u32) none 0 ([] : List Int), box g23 26 [.slice Aa32 (a0.Words.take (mnn (a0.Words.length : Int) 30 : Int).toNat).length cc33, .slice Aa38 (a0.Sites.take (mnn (a0.Sites.length : Int) 30 : Int).toNat).length cc39, .slice Aa94 l93.length cc95], own 39 eSapi_Sym Aa94 cc95 l93, box g43 26 [.slice Aa32 (a0.Words.take (mnn (a0.Words.length : Int) 30 : Int).toNat).length cc33, .slice Aa38 (a0.Sites.take (mnn (a0.Sites.length : Int) 30 : Int).toNat).length cc39, .slice Aa94 l93.length cc95], own 39 eSapi_Sym none 0 ([] : List Sapi_Sym), own 3 (eI .i64) none 0 ([] : List Int), own 37 (eI .u32) none 0 ([] : List Int), own 39 eSapi_Sym none 0 ([] : List Sapi_Sym), own 3 (eI .i64) none 0 ([] : List Int), own 37 (eI .u32) none 0 ([] : List Int), box g19 26 [.slice A0_1 a0.Words.length c0_1, .slice A0_2 a0.Sites.length c0_2, .slice A0_3 a0.Syms.length c0_3], box g6 26 [.slice A1_1 a1.Words.length c1_1, .slice A1_2 a1.Sites.length c1_2, .slice A1_3 a1.Syms.length c1_3], box g2 26 [.slice A0_1 a0.Words.length c0_1, .slice A0_2 a0.Sites.length c0_2, .slice A0_3 a0.Syms.length c0_3]] := hw
  refine c_done ⟨.inl (by kernel_rfl), ?_⟩
  clear hbq
  refine d_last ?_
  refine c_end ?_
  intro wq hbq
  replace hw := hw.behind hbq
  refine hK122 _ _ ?_
  refine go_seq_k fun K145 hK145 => ?_
  refine go_seq_k fun K146 hK146 => ?_
  refine go_region ?_
  refine go_pvs 0 1 [1, 2, 3, 4] hs (L' := [(1, .pointer (some (⟨g111, 0, none⟩ : Addr))), (2, .pointer (some (⟨g115, 0, none⟩ : Addr))), (3, .pointer (some (⟨g135, 0, none⟩ : Addr))), (4, .int .i64 0)]) (by kernel_rfl) ?_ rfl
  clear hs; intro a hs
  refine go_end (by kernel_rfl) ?_
  refine hK146 _ _ ?_
  refine wp_block ?_
  obtain ⟨e147, hl147, HX147⟩ := bind_some H
  have hJ6 : ∀ (Aa186 : Option Addr) (cc187 : Nat) (l185 : List Sapi_Sym) (a : Act) (w : World), Slots a 52 [(2, .pointer (some (⟨g115, 0, none⟩ : Addr))), (3, .pointer (some (⟨g135, 0, none⟩ : Addr)))] → St [] w0 w [own 39 eSapi_Sym Aa186 cc187 l185, box g135 26 [.slice Aa124 (a1.Words.take (mnn (a1.Words.length : Int) 30 : Int).toNat).length cc125, .slice Aa130 (a1.Sites.take (mnn (a1.Sites.length : Int) 30 : Int).toNat).length cc131, .slice Aa186 l185.length cc187], own 39 eSapi_Sym none 0 ([] : List Sapi_Sym), own 3 (eI .i64) none 0 ([] : List Int), own 37 (eI .u32) none 0 ([] : List Int), own 39 eSapi_Sym none 0 ([] : List Sapi_Sym), own 3 (eI .i64) none 0 ([] : List Int), own 37 (eI .u32) none 0 ([] : List Int), box g115 26 [.slice none ([] : List Int).length 0, .slice none ([] : List Int).length 0, .slice none ([] : List Sapi_Sym).length 0], box g111 26 [.slice A1_1 a1.Words.length c1_1, .slice A1_2 a1.Sites.length c1_2, .slice A1_3 a1.Syms.length c1_3], box g99 26 [.slice Aa32 (a0.Words.take (mnn (a0.Words.length : Int) 30 : Int).toNat).length cc33, .slice Aa38 (a0.Sites.take (mnn (a0.Sites.length : Int) 30 : Int).toNat).length cc39, .slice Aa94 l93.length cc95], own 39 eSapi_Sym none 0 ([] : List Sapi_Sym), own 3 (eI .i64) none 0 ([] : List Int), own 37 (eI .u32) none 0 ([] : List Int), box g23 26 [.slice Aa32 (a0.Words.take (mnn (a0.Words.length : Int) 30 : Int).toNat).length cc33, .slice Aa38 (a0.Sites.take (mnn (a0.Sites.length : Int) 30 : Int).toNat).length cc39, .slice Aa94 l93.length cc95], own 39 eSapi_Sym Aa94 cc95 l93, box g43 26 [.slice Aa32 (a0.Words.take (mnn (a0.Words.length : Int) 30 : Int).toNat).length cc33, .slice Aa38 (a0.Sites.take (mnn (a0.Sites.length : Int) 30 : Int).toNat).length cc39, .slice Aa94 l93.length cc95], own 39 eSapi_Sym none 0 ([] : List Sapi_Sym), own 3 (eI .i64) none 0 ([] : List Int), own 37 (eI .u32) none 0 ([] : List Int), own 39 eSapi_Sym none 0 ([] : List Sapi_Sym), own 3 (eI .i64) none 0 ([] : List Int), own 37 (eI .u32) none 0 ([] : List Int), box g19 26 [.slice A0_1 a0.Words.length c0_1, .slice A0_2 a0.Sites.length c0_2, .slice A0_3 a0.Syms.length c0_3], box g6 26 [.slice A1_1 a1.Words.length c1_1, .slice A1_2 a1.Sites.length c1_2, .slice A1_3 a1.Syms.length c1_3], box g2 26 [.slice A0_1 a0.Words.length c0_1, .slice A0_2 a0.Sites.length c0_2, .slice A0_3 a0.Syms.length c0_3]] → rivetlaw09_ObjectAll.j6 t12 a0 l93 a1 l185 = some r → K145 a w := by
   intro Aa186 cc187 l185 a w hs hw H
   unfold rivetlaw09_ObjectAll.j6 at H
   refine hK145 _ _ ?_
   refine go_seq_k fun K188 hK188 => ?_
   refine go_region ?_
   refine go_run hs (op := (Op.load 26 (Operand.tmp 3))) (ty := 26) (dst := some 51) (g := none) (by kernel_rfl) (by kernel_rfl) (by kernel_rfl) (x_blds (g := g135) (o := 0) (p := (⟨g135, 0, none⟩ : Addr)) (vs := [.slice Aa124 (a1.Words.take (mnn (a1.Words.length : Int) 30 : Int).toNat).length cc125, .slice Aa130 (a1.Sites.take (mnn (a1.Sites.length : Int) 30 : Int).toNat).length cc131, .slice Aa186 l185.length cc187]) (hw.up 1) (by kernel_rfl) rfl (by kernel_rfl) (by kernel_rfl) (by kernel_rfl)) [2, 51] (L' := [(2, .pointer (some (⟨g115, 0, none⟩ : Addr))), (51, .agg #[.slice Aa124 (a1.Words.take (mnn (a1.Words.length : Int) 30 : Int).toNat).length cc125, .slice Aa130 (a1.Sites.take (mnn (a1.Sites.length : Int) 30 : Int).toNat).length cc131, .slice Aa186 l185.length cc187])]) (by kernel_rfl) ?_
   clear hs; intro a hs
   replace hw := hw.up 8
   obtain ⟨wd189, hx190, hw⟩ := x_bput (P := Tryd.prog) (ty := 0) (t := 26) (y := (Operand.tmp 2)) (z := (Operand.tmp 51)) (o := 0) (p := (⟨g115, 0, none⟩ : Addr)) (v := .agg #[.slice Aa124 (a1.Words.take (mnn (a1.Words.length : Int) 30 : Int).toNat).length cc125, .slice Aa130 (a1.Sites.take (mnn (a1.Sites.length : Int) 30 : Int).toNat).length cc131, .slice Aa186 l185.length cc187]) (vs := [.slice Aa124 (a1.Words.take (mnn (a1.Words.length : Int) 30 : Int).toNat).length cc125, .slice Aa130 (a1.Sites.take (mnn (a1.Sites.length : Int) 30 : Int).toNat).length cc131, .slice Aa186 l185.length cc187]) (cs' := [.slice Aa124 (a1.Words.take (mnn (a1.Words.length : Int) 30 : Int).toNat).length cc125, .slice Aa130 (a1.Sites.take (mnn (a1.Sites.length : Int) 30 : Int).toNat).length cc131, .slice Aa186 l185.length cc187]) hs hw (by kernel_rfl) rfl (by kernel_rfl) rfl (by kernel_rfl) (by kernel_rfl) (by simp [Value.oneCell']) rfl
   refine go_unit hs (op := (Op.store 26 (Operand.tmp 2) (Operand.tmp 51))) (ty := 0) (dst := none) (g := none) (by kernel_rfl) (by kernel_rfl) (by kernel_rfl) hx190 [2] (L' := [(2, .pointer (some (⟨g115, 0, none⟩ : Addr)))]) (by kernel_rfl) ?_
   clear hs; intro a hs
   refine go_end (by kernel_rfl) ?_
   refine hK188 _ _ ?_
   refine wp_ret ?_
   refine ret1g (L := [(2, .pointer (some (⟨g115, 0, none⟩ : Addr)))]) (r1 := .cell 2 26) (v1 := .agg #[.slice Aa124 (a1.Words.take (mnn (a1.Words.length : Int) 30 : Int).toNat).length cc125, .slice Aa130 (a1.Sites.take (mnn (a1.Sites.length : Int) 30 : Int).toNat).length cc131, .slice Aa186 l185.length cc187]) hs (by kernel_rfl) ⟨_, (show lk 2 [(2, .pointer (some (⟨g115, 0, none⟩ : Addr)))] = some (.pointer (some (⟨g115, 0, none⟩ : Addr))) by kernel_rfl), lvb_row (hw.up 0) (by kernel_rfl) (by kernel_rfl) (by kernel_rfl)⟩ ?_
   refine ⟨_, rfl, ?_⟩
   refine hKR109 _ _ ?_
   intro a hs1
   have hs : Slots a _ [(5, .bool t12), (6, .pointer (some (⟨g99, 0, none⟩ : Addr))), (12, .agg #[.slice Aa124 (a1.Words.take (mnn (a1.Words.length : Int) 30 : Int).toNat).length cc125, .slice Aa130 (a1.Sites.take (mnn (a1.Sites.length : Int) 30 : Int).toNat).length cc131, .slice Aa186 l185.length cc187])] := hs1.keep [5, 6, 12] (by kernel_rfl)
   clear hs1
   obtain ⟨g191, wd192, hx193, hw⟩ := x_allocc (P := Tryd.prog) (elem := 26) (ty := 0) (z := .agg #[.slice none 0 0, .slice none 0 0, .slice none 0 0]) (cs := [.slice none 0 0, .slice none 0 0, .slice none 0 0]) hs hw (by kernel_rfl) (by kernel_rfl)
   refine go_run hs (op := (Op.alloc 26)) (ty := 0) (dst := some 7) (g := none) (by kernel_rfl) (by kernel_rfl) (by kernel_rfl) hx193 [5, 6, 7, 12] (L' := [(5, .bool t12), (6, .pointer (some (⟨g99, 0, none⟩ : Addr))), (7, .pointer (some (⟨g191, 0, none⟩ : Addr))), (12, .agg #[.slice Aa124 (a1.Words.take (mnn (a1.Words.length : Int) 30 : Int).toNat).length cc125, .slice Aa130 (a1.Sites.take (mnn (a1.Sites.length : Int) 30 : Int).toNat).length cc131, .slice Aa186 l185.length cc187])]) (by kernel_rfl) ?_
   clear hs; intro a hs
   replace hw := St.own_nil hw 37 (eI .u32)
   replace hw := St.own_nil hw 3 (eI .i64)
   replace hw := St.own_nil hw 39 eSapi_Sym
   replace hw : St [] w0 wd192 [own 39 eSapi_Sym none 0 ([] : List Sapi_Sym), own 3 (eI .i64) none 0 ([] : List Int), own 37 (eI .u32) none 0 ([] : List Int), box g191 26 [.slice none ([] : List Int).length 0, .slice none ([] : List Int).length 0, .slice none ([] : List Sapi_Sym).length 0], box g115 26 [.slice Aa124 (a1.Words.take (mnn (a1.Words.length : Int) 30 : Int).toNat).length cc125, .slice Aa130 (a1.Sites.take (mnn (a1.Sites.length : Int) 30 : Int).toNat).length cc131, .slice Aa186 l185.length cc187], own 39 eSapi_Sym Aa186 cc187 l185, box g135 26 [.slice Aa124 (a1.Words.take (mnn (a1.Words.length : Int) 30 : Int).toNat).length cc125, .slice Aa130 (a1.Sites.take (mnn (a1.Sites.length : Int) 30 : Int).toNat).length cc131, .slice Aa186 l185.length cc187], own 39 eSapi_Sym none 0 ([] : List Sapi_Sym), own 3 (eI .i64) none 0 ([] : List Int), own 37 (eI .u32) none 0 ([] : List Int), own 39 eSapi_Sym none 0 ([] : List Sapi_Sym), own 3 (eI .i64) none 0 ([] : List Int), own 37 (eI .u32) none 0 ([] : List Int), box g111 26 [.slice A1_1 a1.Words.length c1_1, .slice A1_2 a1.Sites.length c1_2, .slice A1_3 a1.Syms.length c1_3], box g99 26 [.slice Aa32 (a0.Words.take (mnn (a0.Words.length : Int) 30 : Int).toNat).length cc33, .slice Aa38 (a0.Sites.take (mnn (a0.Sites.length : Int) 30 : Int).toNat).length cc39, .slice Aa94 l93.length cc95], own 39 eSapi_Sym none 0 ([] : List Sapi_Sym), own 3 (eI .i64) none 0 ([] : List Int), own 37 (eI .u32) none 0 ([] : List Int), box g23 26 [.slice Aa32 (a0.Words.take (mnn (a0.Words.length : Int) 30 : Int).toNat).length cc33, .slice Aa38 (a0.Sites.take (mnn (a0.Sites.length : Int) 30 : Int).toNat).length cc39, .slice Aa94 l93.length cc95], own 39 eSapi_Sym Aa94 cc95 l93, box g43 26 [.slice Aa32 (a0.Words.take (mnn (a0.Words.length : Int) 30 : Int).toNat).length cc33, .slice Aa38 (a0.Sites.take (mnn (a0.Sites.length : Int) 30 : Int).toNat).length cc39, .slice Aa94 l93.length cc95], own 39 eSapi_Sym none 0 ([] : List Sapi_Sym), own 3 (eI .i64) none 0 ([] : List Int), own 37 (eI .u32) none 0 ([] : List Int), own 39 eSapi_Sym none 0 ([] : List Sapi_Sym), own 3 (eI .i64) none 0 ([] : List Int), own 37 (eI .u32) none 0 ([] : List Int), box g19 26 [.slice A0_1 a0.Words.length c0_1, .slice A0_2 a0.Sites.length c0_2, .slice A0_3 a0.Syms.length c0_3], box g6 26 [.slice A1_1 a1.Words.length c1_1, .slice A1_2 a1.Sites.length c1_2, .slice A1_3 a1.Syms.length c1_3], box g2 26 [.slice A0_1 a0.Words.length c0_1, .slice A0_2 a0.Sites.length c0_2, .slice A0_3 a0.Syms.length c0_3]] := hw
   replace hw := hw.up 3
   obtain ⟨wd198, hx199, hw⟩ := x_bput (P := Tryd.prog) (ty := 0) (t := 26) (y := (Operand.tmp 7)) (z := (Operand.tmp 12)) (o := 0) (p := (⟨g191, 0, none⟩ : Addr)) (v := .agg #[.slice Aa124 (a1.Words.take (mnn (a1.Words.length : Int) 30 : Int).toNat).length cc125, .slice Aa130 (a1.Sites.take (mnn (a1.Sites.length : Int) 30 : Int).toNat).length cc131, .slice Aa186 l185.length cc187]) (vs := [.slice Aa124 (a1.Words.take (mnn (a1.Words.length : Int) 30 : Int).toNat).length cc125, .slice Aa130 (a1.Sites.take (mnn (a1.Sites.length : Int) 30 : Int).toNat).length cc131, .slice Aa186 l185.length cc187]) (cs' := [.slice Aa124 (a1.Words.take (mnn (a1.Words.length : Int) 30 : Int).toNat).length cc125, .slice Aa130 (a1.Sites.take (mnn (a1.Sites.length : Int) 30 : Int).toNat).length cc131, .slice Aa186 l185.length cc187]) hs hw (by kernel_rfl) rfl (by kernel_rfl) rfl (by kernel_rfl) (by kernel_rfl) (by simp [Value.oneCell']) rfl
   refine go_unit hs (op := (Op.store 26 (Operand.tmp 7) (Operand.tmp 12))) (ty := 0) (dst := none) (g := none) (by kernel_rfl) (by kernel_rfl) (by kernel_rfl) hx199 [5, 6, 7] (L' := [(5, .bool t12), (6, .pointer (some (⟨g99, 0, none⟩ : Addr))), (7, .pointer (some (⟨g191, 0, none⟩ : Addr)))]) (by kernel_rfl) ?_
   clear hs; intro a hs
   refine go_end (by kernel_rfl) ?_
   refine hK108 _ _ ?_
   refine go_seq_k fun K200 hK200 => ?_
   have hJ7 : ∀ (v233 : Bool) (a : Act) (w : World), Slots a 51 [(4, .bool v233)] → St [] w0 w [box g191 26 [.slice Aa124 (a1.Words.take (mnn (a1.Words.length : Int) 30 : Int).toNat).length cc125, .slice Aa130 (a1.Sites.take (mnn (a1.Sites.length : Int) 30 : Int).toNat).length cc131, .slice Aa186 l185.length cc187], own 39 eSapi_Sym none 0 ([] : List Sapi_Sym), own 3 (eI .i64) none 0 ([] : List Int), own 37 (eI .u32) none 0 ([] : List Int), box g115 26 [.slice Aa124 (a1.Words.take (mnn (a1.Words.length : Int) 30 : Int).toNat).length cc125, .slice Aa130 (a1.Sites.take (mnn (a1.Sites.length : Int) 30 : Int).toNat).length cc131, .slice Aa186 l185.length cc187], own 39 eSapi_Sym Aa186 cc187 l185, box g135 26 [.slice Aa124 (a1.Words.take (mnn (a1.Words.length : Int) 30 : Int).toNat).length cc125, .slice Aa130 (a1.Sites.take (mnn (a1.Sites.length : Int) 30 : Int).toNat).length cc131, .slice Aa186 l185.length cc187], own 39 eSapi_Sym none 0 ([] : List Sapi_Sym), own 3 (eI .i64) none 0 ([] : List Int), own 37 (eI .u32) none 0 ([] : List Int), own 39 eSapi_Sym none 0 ([] : List Sapi_Sym), own 3 (eI .i64) none 0 ([] : List Int), own 37 (eI .u32) none 0 ([] : List Int), box g111 26 [.slice A1_1 a1.Words.length c1_1, .slice A1_2 a1.Sites.length c1_2, .slice A1_3 a1.Syms.length c1_3], box g99 26 [.slice Aa32 (a0.Words.take (mnn (a0.Words.length : Int) 30 : Int).toNat).length cc33, .slice Aa38 (a0.Sites.take (mnn (a0.Sites.length : Int) 30 : Int).toNat).length cc39, .slice Aa94 l93.length cc95], own 39 eSapi_Sym none 0 ([] : List Sapi_Sym), own 3 (eI .i64) none 0 ([] : List Int), own 37 (eI .u32) none 0 ([] : List Int), box g23 26 [.slice Aa32 (a0.Words.take (mnn (a0.Words.length : Int) 30 : Int).toNat).length cc33, .slice Aa38 (a0.Sites.take (mnn (a0.Sites.length : Int) 30 : Int).toNat).length cc39, .slice Aa94 l93.length cc95], own 39 eSapi_Sym Aa94 cc95 l93, box g43 26 [.slice Aa32 (a0.Words.take (mnn (a0.Words.length : Int) 30 : Int).toNat).length cc33, .slice Aa38 (a0.Sites.take (mnn (a0.Sites.length : Int) 30 : Int).toNat).length cc39, .slice Aa94 l93.length cc95], own 39 eSapi_Sym none 0 ([] : List Sapi_Sym), own 3 (eI .i64) none 0 ([] : List Int), own 37 (eI .u32) none 0 ([] : List Int), own 39 eSapi_Sym none 0 ([] : List Sapi_Sym), own 3 (eI .i64) none 0 ([] : List Int), own 37 (eI .u32) none 0 ([] : List Int), box g19 26 [.slice A0_1 a0.Words.length c0_1, .slice A0_2 a0.Sites.length c0_2, .slice A0_3 a0.Syms.length c0_3], box g6 26 [.slice A1_1 a1.Words.length c1_1, .slice A1_2 a1.Sites.length c1_2, .slice A1_3 a1.Syms.length c1_3], box g2 26 [.slice A0_1 a0.Words.length c0_1, .slice A0_2 a0.Sites.length c0_2, .slice A0_3 a0.Syms.length c0_3]] → rivetlaw09_ObjectAll.j7 v233 = some r → K200 a w := by
    intro v233 a w hs hw H
    unfold rivetlaw09_ObjectAll.j7 at H
    refine hK200 _ _ ?_
    refine wp_ret ?_
    obtain rfl := Option.some.inj H
    refine ret1 (t := 4) (v := .bool v233) hs (by kernel_rfl) (by kernel_rfl) ?_
    exact ⟨rfl, hw.only 0⟩
   refine q2_region (by kernel_rfl) (by kernel_rfl) ?_
   refine q_pvs 0 2 [6, 7, 14] hs (L' := [(6, .pointer (some (⟨g99, 0, none⟩ : Addr))), (7, .pointer (some (⟨g191, 0, none⟩ : Addr))), (14, .bool t12)]) (by kernel_rfl) ?_ rfl
   clear hs; intro a hs
   cases hb201 : t12
   ·replace H := ite_f H (ff hb201)
    rw [hb201] at hs
    refine q_pvs 2 39 [4] hs (L' := [(4, .bool false)]) (by kernel_rfl) ?_ rfl
    clear hs; intro a hs
    refine q_end (by kernel_rfl) ?_
    intro wq hbq
    replace hw := hw.behind hbq
    replace hw := hw.up 29
    replace hw := hw.up 29
    replace hw := hw.up 29
    replace hw := hw.up 29
    replace hw := hw.up 29
    replace hw := hw.up 29
    replace hw := hw.up 29
    replace hw := hw.up 29
    replace hw := hw.up 29
    replace hw := hw.up 29
    replace hw := hw.up 29
    replace hw := hw.up 29
    replace hw := hw.up 29
    replace hw := hw.up 29
    replace hw := hw.up 29
    replace hw := hw.up 29
    replace hw := hw.up 29
    replace hw := hw.up 29
    replace hw := hw.up 29
    replace hw := hw.up 29
    replace hw := hw.up 29
    replace hw := hw.up 29
    replace hw := hw.up 29
    replace hw := hw.up 29
    replace hw := hw.up 29
    replace hw := hw.up 29
    replace hw := hw.up 29
    replace hw := hw.up 29
    replace hw := hw.up 29
    replace hw := hw.up 29
    replace hw := hw.only 30
    exact hJ7 false _ _ (hs.keep [4] (by kernel_rfl)) hw H
   ·replace H := ite_t H hb201
    rw [hb201] at hs
    refine q_run hs (op := (Op.load 26 (Operand.tmp 6))) (ty := 26) (dst := some 15) (g := some (1, true)) (by kernel_rfl) (by kernel_rfl) (by kernel_rfl) (fun wx hbx => (x_blds (g := g99) (o := 0) (p := (⟨g99, 0, none⟩ : Addr)) (vs := [.slice Aa32 (a0.Words.take (mnn (a0.Words.length : Int) 30 : Int).toNat).length cc33, .slice Aa38 (a0.Sites.take (mnn (a0.Sites.length : Int) 30 : Int).toNat).length cc39, .slice Aa94 l93.length cc95]) ((hw.behind hbx).up 14) (by kernel_rfl) rfl (by kernel_rfl) (by kernel_rfl) (by kernel_rfl))) [6, 7, 14, 15] (L' := [(6, .pointer (some (⟨g99, 0, none⟩ : Addr))), (7, .pointer (some (⟨g191, 0, none⟩ : Addr))), (14, .bool true), (15, .agg #[.slice Aa32 (a0.Words.take (mnn (a0.Words.length : Int) 30 : Int).toNat).length cc33, .slice Aa38 (a0.Sites.take (mnn (a0.Sites.length : Int) 30 : Int).toNat).length cc39, .slice Aa94 l93.length cc95])]) (by kernel_rfl) ?_
    clear hs; intro a hs
    obtain ⟨t203, hx204, H⟩ := bind_some H
    refine q_call hs (op := (Op.call { callee := (Callee.value (Operand.func 15)), args := #[(Operand.tmp 15)], argTypes := #[26] })) (ty := 29) (dst := some 16) (g := some (1, true)) (by kernel_rfl) (by kernel_rfl) (by kernel_rfl) (f := 15) (args := #[.agg #[.slice Aa32 (a0.Words.take (mnn (a0.Words.length : Int) 30 : Int).toNat).length cc33, .slice Aa38 (a0.Sites.take (mnn (a0.Sites.length : Int) 30 : Int).toNat).length cc39, .slice Aa94 l93.length cc95]]) (v := .int .i64 t203) (by kernel_rfl) (fun wx hbx => (object_May.calls (⟨a0.Words.take (mnn (a0.Words.length : Int) 30 : Int).toNat, a0.Sites.take (mnn (a0.Sites.length : Int) 30 : Int).toNat, l93⟩ : Sapi_Obj) Aa32 cc33 Aa38 cc39 Aa94 cc95 t203 _ ((hc35 _ (hr0_1.old hw)).below hbx) ((hc41 _ (hr0_2.old hw)).below hbx) ((Rd.of_own (hw.up 19)).below hbx) hx204).mono ?_) [6, 7, 14, 16] (L' := [(6, .pointer (some (⟨g99, 0, none⟩ : Addr))), (7, .pointer (some (⟨g191, 0, none⟩ : Addr))), (14, .bool true), (16, .int .i64 t203)]) (by kernel_rfl) ?_
    · rintro e wy ⟨rfl, hwy⟩
      exact ⟨rfl, below_st hbx hwy⟩
    clear hs; intro a hs
    refine q_run hs (op := (Op.load 26 (Operand.tmp 6))) (ty := 26) (dst := some 17) (g := some (1, true)) (by kernel_rfl) (by kernel_rfl) (by kernel_rfl) (fun wx hbx => (x_blds (g := g99) (o := 0) (p := (⟨g99, 0, none⟩ : Addr)) (vs := [.slice Aa32 (a0.Words.take (mnn (a0.Words.length : Int) 30 : Int).toNat).length cc33, .slice Aa38 (a0.Sites.take (mnn (a0.Sites.length : Int) 30 : Int).toNat).length cc39, .slice Aa94 l93.length cc95]) ((hw.behind hbx).up 14) (by kernel_rfl) rfl (by kernel_rfl) (by kernel_rfl) (by kernel_rfl))) [6, 7, 14, 16, 17] (L' := [(6, .pointer (some (⟨g99, 0, none⟩ : Addr))), (7, .pointer (some (⟨g191, 0, none⟩ : Addr))), (14, .bool true), (16, .int .i64 t203), (17, .agg #[.slice Aa32 (a0.Words.take (mnn (a0.Words.length : Int) 30 : Int).toNat).length cc33, .slice Aa38 (a0.Sites.take (mnn (a0.Sites.length : Int) 30 : Int).toNat).length cc39, .slice Aa94 l93.length cc95])]) (by kernel_rfl) ?_
    clear hs; intro a hs
    obtain ⟨t206, hx207, H⟩ := bind_some H
    refine q_call hs (op := (Op.call { callee := (Callee.value (Operand.func 16)), args := #[(Operand.tmp 17)], argTypes := #[26] })) (ty := 29) (dst := some 18) (g := some (1, true)) (by kernel_rfl) (by kernel_rfl) (by kernel_rfl) (f := 16) (args := #[.agg #[.slice Aa32 (a0.Words.take (mnn (a0.Words.length : Int) 30 : Int).toNat).length cc33, .slice Aa38 (a0.Sites.take (mnn (a0.Sites.length : Int) 30 : Int).toNat).length cc39, .slice Aa94 l93.length cc95]]) (v := .int .i64 t206) (by kernel_rfl) (fun wx hbx => (rivetref09_May.calls (⟨a0.Words.take (mnn (a0.Words.length : Int) 30 : Int).toNat, a0.Sites.take (mnn (a0.Sites.length : Int) 30 : Int).toNat, l93⟩ : Sapi_Obj) Aa32 cc33 Aa38 cc39 Aa94 cc95 t206 _ ((hc35 _ (hr0_1.old hw)).below hbx) ((hc41 _ (hr0_2.old hw)).below hbx) ((Rd.of_own (hw.up 19)).below hbx) hx207).mono ?_) [6, 7, 14, 16, 18] (L' := [(6, .pointer (some (⟨g99, 0, none⟩ : Addr))), (7, .pointer (some (⟨g191, 0, none⟩ : Addr))), (14, .bool true), (16, .int .i64 t203), (18, .int .i64 t206)]) (by kernel_rfl) ?_
    · rintro e wy ⟨rfl, hwy⟩
      exact ⟨rfl, below_st hbx hwy⟩
    clear hs; intro a hs
    refine q_pvs 6 9 [6, 7, 21] hs (L' := [(6, .pointer (some (⟨g99, 0, none⟩ : Addr))), (7, .pointer (some (⟨g191, 0, none⟩ : Addr))), (21, .bool (t203 == t206))]) (by kernel_rfl) ?_ rfl
    clear hs; intro a hs
    cases hb208 : (t203 == t206)
    ·replace H := ite_f H (beq_eq_false_iff_ne.1 hb208)
     rw [hb208] at hs
     refine q_pvs 9 39 [4] hs (L' := [(4, .bool false)]) (by kernel_rfl) ?_ rfl
     clear hs; intro a hs
     refine q_end (by kernel_rfl) ?_
     intro wq hbq
     replace hw := hw.behind hbq
     replace hw := hw.up 29
     replace hw := hw.up 29
     replace hw := hw.up 29
     replace hw := hw.up 29
     replace hw := hw.up 29
     replace hw := hw.up 29
     replace hw := hw.up 29
     replace hw := hw.up 29
     replace hw := hw.up 29
     replace hw := hw.up 29
     replace hw := hw.up 29
     replace hw := hw.up 29
     replace hw := hw.up 29
     replace hw := hw.up 29
     replace hw := hw.up 29
     replace hw := hw.up 29
     replace hw := hw.up 29
     replace hw := hw.up 29
     replace hw := hw.up 29
     replace hw := hw.up 29
     replace hw := hw.up 29
     replace hw := hw.up 29
     replace hw := hw.up 29
     replace hw := hw.up 29
     replace hw := hw.up 29
     replace hw := hw.up 29
     replace hw := hw.up 29
     replace hw := hw.up 29
     replace hw := hw.up 29
     replace hw := hw.up 29
     replace hw := hw.only 30
     exact hJ7 false _ _ (hs.keep [4] (by kernel_rfl)) hw H
    ·replace H := ite_t H (beq_iff_eq.1 hb208)
     rw [hb208] at hs
     refine q_run hs (op := (Op.load 26 (Operand.tmp 7))) (ty := 26) (dst := some 22) (g := some (8, true)) (by kernel_rfl) (by kernel_rfl) (by kernel_rfl) (fun wx hbx => (x_blds (g := g191) (o := 0) (p := (⟨g191, 0, none⟩ : Addr)) (vs := [.slice Aa124 (a1.Words.take (mnn (a1.Words.length : Int) 30 : Int).toNat).length cc125, .slice Aa130 (a1.Sites.take (mnn (a1.Sites.length : Int) 30 : Int).toNat).length cc131, .slice Aa186 l185.length cc187]) ((hw.behind hbx).up 0) (by kernel_rfl) rfl (by kernel_rfl) (by kernel_rfl) (by kernel_rfl))) [6, 7, 21, 22] (L' := [(6, .pointer (some (⟨g99, 0, none⟩ : Addr))), (7, .pointer (some (⟨g191, 0, none⟩ : Addr))), (21, .bool true), (22, .agg #[.slice Aa124 (a1.Words.take (mnn (a1.Words.length : Int) 30 : Int).toNat).length cc125, .slice Aa130 (a1.Sites.take (mnn (a1.Sites.length : Int) 30 : Int).toNat).length cc131, .slice Aa186 l185.length cc187])]) (by kernel_rfl) ?_
     clear hs; intro a hs
     obtain ⟨t210, hx211, H⟩ := bind_some H
     refine q_call hs (op := (Op.call { callee := (Callee.value (Operand.func 15)), args := #[(Operand.tmp 22)], argTypes := #[26] })) (ty := 29) (dst := some 23) (g := some (8, true)) (by kernel_rfl) (by kernel_rfl) (by kernel_rfl) (f := 15) (args := #[.agg #[.slice Aa124 (a1.Words.take (mnn (a1.Words.length : Int) 30 : Int).toNat).length cc125, .slice Aa130 (a1.Sites.take (mnn (a1.Sites.length : Int) 30 : Int).toNat).length cc131, .slice Aa186 l185.length cc187]]) (v := .int .i64 t210) (by kernel_rfl) (fun wx hbx => (object_May.calls (⟨a1.Words.take (mnn (a1.Words.length : Int) 30 : Int).toNat, a1.Sites.take (mnn (a1.Sites.length : Int) 30 : Int).toNat, l185⟩ : Sapi_Obj) Aa124 cc125 Aa130 cc131 Aa186 cc187 t210 _ ((hc127 _ (hr1_1.old hw)).below hbx) ((hc133 _ (hr1_2.old hw)).below hbx) ((Rd.of_own (hw.up 5)).below hbx) hx211).mono ?_) [6, 7, 21, 23] (L' := [(6, .pointer (some (⟨g99, 0, none⟩ : Addr))), (7, .pointer (some (⟨g191, 0, none⟩ : Addr))), (21, .bool true), (23, .int .i64 t210)]) (by kernel_rfl) ?_
     · rintro e wy ⟨rfl, hwy⟩
       exact ⟨rfl, below_st hbx hwy⟩
     clear hs; intro a hs
     refine q_run hs (op := (Op.load 26 (Operand.tmp 7))) (ty := 26) (dst := some 24) (g := some (8, true)) (by kernel_rfl) (by kernel_rfl) (by kernel_rfl) (fun wx hbx => (x_blds (g := g191) (o := 0) (p := (⟨g191, 0, none⟩ : Addr)) (vs := [.slice Aa124 (a1.Words.take (mnn (a1.Words.length : Int) 30 : Int).toNat).length cc125, .slice Aa130 (a1.Sites.take (mnn (a1.Sites.length : Int) 30 : Int).toNat).length cc131, .slice Aa186 l185.length cc187]) ((hw.behind hbx).up 0) (by kernel_rfl) rfl (by kernel_rfl) (by kernel_rfl) (by kernel_rfl))) [6, 7, 21, 23, 24] (L' := [(6, .pointer (some (⟨g99, 0, none⟩ : Addr))), (7, .pointer (some (⟨g191, 0, none⟩ : Addr))), (21, .bool true), (23, .int .i64 t210), (24, .agg #[.slice Aa124 (a1.Words.take (mnn (a1.Words.length : Int) 30 : Int).toNat).length cc125, .slice Aa130 (a1.Sites.take (mnn (a1.Sites.length : Int) 30 : Int).toNat).length cc131, .slice Aa186 l185.length cc187])]) (by kernel_rfl) ?_
     clear hs; intro a hs
     obtain ⟨t213, hx214, H⟩ := bind_some H
     refine q_call hs (op := (Op.call { callee := (Callee.value (Operand.func 16)), args := #[(Operand.tmp 24)], argTypes := #[26] })) (ty := 29) (dst := some 25) (g := some (8, true)) (by kernel_rfl) (by kernel_rfl) (by kernel_rfl) (f := 16) (args := #[.agg #[.slice Aa124 (a1.Words.take (mnn (a1.Words.length : Int) 30 : Int).toNat).length cc125, .slice Aa130 (a1.Sites.take (mnn (a1.Sites.length : Int) 30 : Int).toNat).length cc131, .slice Aa186 l185.length cc187]]) (v := .int .i64 t213) (by kernel_rfl) (fun wx hbx => (rivetref09_May.calls (⟨a1.Words.take (mnn (a1.Words.length : Int) 30 : Int).toNat, a1.Sites.take (mnn (a1.Sites.length : Int) 30 : Int).toNat, l185⟩ : Sapi_Obj) Aa124 cc125 Aa130 cc131 Aa186 cc187 t213 _ ((hc127 _ (hr1_1.old hw)).below hbx) ((hc133 _ (hr1_2.old hw)).below hbx) ((Rd.of_own (hw.up 5)).below hbx) hx214).mono ?_) [6, 7, 21, 23, 25] (L' := [(6, .pointer (some (⟨g99, 0, none⟩ : Addr))), (7, .pointer (some (⟨g191, 0, none⟩ : Addr))), (21, .bool true), (23, .int .i64 t210), (25, .int .i64 t213)]) (by kernel_rfl) ?_
     · rintro e wy ⟨rfl, hwy⟩
       exact ⟨rfl, below_st hbx hwy⟩
     clear hs; intro a hs
     refine q_pvs 13 16 [6, 7, 28] hs (L' := [(6, .pointer (some (⟨g99, 0, none⟩ : Addr))), (7, .pointer (some (⟨g191, 0, none⟩ : Addr))), (28, .bool (t210 == t213))]) (by kernel_rfl) ?_ rfl
     clear hs; intro a hs
     cases hb215 : (t210 == t213)
     ·replace H := ite_f H (beq_eq_false_iff_ne.1 hb215)
      rw [hb215] at hs
      refine q_pvs 16 39 [4] hs (L' := [(4, .bool false)]) (by kernel_rfl) ?_ rfl
      clear hs; intro a hs
      refine q_end (by kernel_rfl) ?_
      intro wq hbq
      replace hw := hw.behind hbq
      replace hw := hw.up 29
      replace hw := hw.up 29
      replace hw := hw.up 29
      replace hw := hw.up 29
      replace hw := hw.up 29
      replace hw := hw.up 29
      replace hw := hw.up 29
      replace hw := hw.up 29
      replace hw := hw.up 29
      replace hw := hw.up 29
      replace hw := hw.up 29
      replace hw := hw.up 29
      replace hw := hw.up 29
      replace hw := hw.up 29
      replace hw := hw.up 29
      replace hw := hw.up 29
      replace hw := hw.up 29
      replace hw := hw.up 29
      replace hw := hw.up 29
      replace hw := hw.up 29
      replace hw := hw.up 29
      replace hw := hw.up 29
      replace hw := hw.up 29
      replace hw := hw.up 29
      replace hw := hw.up 29
      replace hw := hw.up 29
      replace hw := hw.up 29
      replace hw := hw.up 29
      replace hw := hw.up 29
      replace hw := hw.up 29
      replace hw := hw.only 30
      exact hJ7 false _ _ (hs.keep [4] (by kernel_rfl)) hw H
     ·replace H := ite_t H (beq_iff_eq.1 hb215)
      rw [hb215] at hs
      refine q_run hs (op := (Op.load 26 (Operand.tmp 6))) (ty := 26) (dst := some 29) (g := some (15, true)) (by kernel_rfl) (by kernel_rfl) (by kernel_rfl) (fun wx hbx => (x_blds (g := g99) (o := 0) (p := (⟨g99, 0, none⟩ : Addr)) (vs := [.slice Aa32 (a0.Words.take (mnn (a0.Words.length : Int) 30 : Int).toNat).length cc33, .slice Aa38 (a0.Sites.take (mnn (a0.Sites.length : Int) 30 : Int).toNat).length cc39, .slice Aa94 l93.length cc95]) ((hw.behind hbx).up 14) (by kernel_rfl) rfl (by kernel_rfl) (by kernel_rfl) (by kernel_rfl))) [6, 7, 28, 29] (L' := [(6, .pointer (some (⟨g99, 0, none⟩ : Addr))), (7, .pointer (some (⟨g191, 0, none⟩ : Addr))), (28, .bool true), (29, .agg #[.slice Aa32 (a0.Words.take (mnn (a0.Words.length : Int) 30 : Int).toNat).length cc33, .slice Aa38 (a0.Sites.take (mnn (a0.Sites.length : Int) 30 : Int).toNat).length cc39, .slice Aa94 l93.length cc95])]) (by kernel_rfl) ?_
      clear hs; intro a hs
      refine q_run hs (op := (Op.load 26 (Operand.tmp 7))) (ty := 26) (dst := some 30) (g := some (15, true)) (by kernel_rfl) (by kernel_rfl) (by kernel_rfl) (fun wx hbx => (x_blds (g := g191) (o := 0) (p := (⟨g191, 0, none⟩ : Addr)) (vs := [.slice Aa124 (a1.Words.take (mnn (a1.Words.length : Int) 30 : Int).toNat).length cc125, .slice Aa130 (a1.Sites.take (mnn (a1.Sites.length : Int) 30 : Int).toNat).length cc131, .slice Aa186 l185.length cc187]) ((hw.behind hbx).up 0) (by kernel_rfl) rfl (by kernel_rfl) (by kernel_rfl) (by kernel_rfl))) [6, 7, 28, 29, 30] (L' := [(6, .pointer (some (⟨g99, 0, none⟩ : Addr))), (7, .pointer (some (⟨g191, 0, none⟩ : Addr))), (28, .bool true), (29, .agg #[.slice Aa32 (a0.Words.take (mnn (a0.Words.length : Int) 30 : Int).toNat).length cc33, .slice Aa38 (a0.Sites.take (mnn (a0.Sites.length : Int) 30 : Int).toNat).length cc39, .slice Aa94 l93.length cc95]), (30, .agg #[.slice Aa124 (a1.Words.take (mnn (a1.Words.length : Int) 30 : Int).toNat).length cc125, .slice Aa130 (a1.Sites.take (mnn (a1.Sites.length : Int) 30 : Int).toNat).length cc131, .slice Aa186 l185.length cc187])]) (by kernel_rfl) ?_
      clear hs; intro a hs
      obtain ⟨t217, hx218, H⟩ := bind_some H
      refine q_call hs (op := (Op.call { callee := (Callee.value (Operand.func 17)), args := #[(Operand.tmp 29), (Operand.tmp 30)], argTypes := #[26, 26] })) (ty := 4) (dst := some 31) (g := some (15, true)) (by kernel_rfl) (by kernel_rfl) (by kernel_rfl) (f := 17) (args := #[.agg #[.slice Aa32 (a0.Words.take (mnn (a0.Words.length : Int) 30 : Int).toNat).length cc33, .slice Aa38 (a0.Sites.take (mnn (a0.Sites.length : Int) 30 : Int).toNat).length cc39, .slice Aa94 l93.length cc95], .agg #[.slice Aa124 (a1.Words.take (mnn (a1.Words.length : Int) 30 : Int).toNat).length cc125, .slice Aa130 (a1.Sites.take (mnn (a1.Sites.length : Int) 30 : Int).toNat).length cc131, .slice Aa186 l185.length cc187]]) (v := .bool t217) (by kernel_rfl) (fun wx hbx => (object_Same.calls (⟨a0.Words.take (mnn (a0.Words.length : Int) 30 : Int).toNat, a0.Sites.take (mnn (a0.Sites.length : Int) 30 : Int).toNat, l93⟩ : Sapi_Obj) Aa32 cc33 Aa38 cc39 Aa94 cc95 (⟨a1.Words.take (mnn (a1.Words.length : Int) 30 : Int).toNat, a1.Sites.take (mnn (a1.Sites.length : Int) 30 : Int).toNat, l185⟩ : Sapi_Obj) Aa124 cc125 Aa130 cc131 Aa186 cc187 t217 _ ((hc35 _ (hr0_1.old hw)).below hbx) ((hc41 _ (hr0_2.old hw)).below hbx) ((Rd.of_own (hw.up 19)).below hbx) ((hc127 _ (hr1_1.old hw)).below hbx) ((hc133 _ (hr1_2.old hw)).below hbx) ((Rd.of_own (hw.up 5)).below hbx) hx218).mono ?_) [6, 7, 28, 31] (L' := [(6, .pointer (some (⟨g99, 0, none⟩ : Addr))), (7, .pointer (some (⟨g191, 0, none⟩ : Addr))), (28, .bool true), (31, .bool t217)]) (by kernel_rfl) ?_
      · rintro e wy ⟨rfl, hwy⟩
        exact ⟨rfl, below_st hbx hwy⟩
      clear hs; intro a hs
      refine q_run hs (op := (Op.load 26 (Operand.tmp 6))) (ty := 26) (dst := some 32) (g := some (15, true)) (by kernel_rfl) (by kernel_rfl) (by kernel_rfl) (fun wx hbx => (x_blds (g := g99) (o := 0) (p := (⟨g99, 0, none⟩ : Addr)) (vs := [.slice Aa32 (a0.Words.take (mnn (a0.Words.length : Int) 30 : Int).toNat).length cc33, .slice Aa38 (a0.Sites.take (mnn (a0.Sites.length : Int) 30 : Int).toNat).length cc39, .slice Aa94 l93.length cc95]) ((hw.behind hbx).up 14) (by kernel_rfl) rfl (by kernel_rfl) (by kernel_rfl) (by kernel_rfl))) [6, 7, 28, 31, 32] (L' := [(6, .pointer (some (⟨g99, 0, none⟩ : Addr))), (7, .pointer (some (⟨g191, 0, none⟩ : Addr))), (28, .bool true), (31, .bool t217), (32, .agg #[.slice Aa32 (a0.Words.take (mnn (a0.Words.length : Int) 30 : Int).toNat).length cc33, .slice Aa38 (a0.Sites.take (mnn (a0.Sites.length : Int) 30 : Int).toNat).length cc39, .slice Aa94 l93.length cc95])]) (by kernel_rfl) ?_
      clear hs; intro a hs
      refine q_run hs (op := (Op.load 26 (Operand.tmp 7))) (ty := 26) (dst := some 33) (g := some (15, true)) (by kernel_rfl) (by kernel_rfl) (by kernel_rfl) (fun wx hbx => (x_blds (g := g191) (o := 0) (p := (⟨g191, 0, none⟩ : Addr)) (vs := [.slice Aa124 (a1.Words.take (mnn (a1.Words.length : Int) 30 : Int).toNat).length cc125, .slice Aa130 (a1.Sites.take (mnn (a1.Sites.length : Int) 30 : Int).toNat).length cc131, .slice Aa186 l185.length cc187]) ((hw.behind hbx).up 0) (by kernel_rfl) rfl (by kernel_rfl) (by kernel_rfl) (by kernel_rfl))) [6, 7, 28, 31, 32, 33] (L' := [(6, .pointer (some (⟨g99, 0, none⟩ : Addr))), (7, .pointer (some (⟨g191, 0, none⟩ : Addr))), (28, .bool true), (31, .bool t217), (32, .agg #[.slice Aa32 (a0.Words.take (mnn (a0.Words.length : Int) 30 : Int).toNat).length cc33, .slice Aa38 (a0.Sites.take (mnn (a0.Sites.length : Int) 30 : Int).toNat).length cc39, .slice Aa94 l93.length cc95]), (33, .agg #[.slice Aa124 (a1.Words.take (mnn (a1.Words.length : Int) 30 : Int).toNat).length cc125, .slice Aa130 (a1.Sites.take (mnn (a1.Sites.length : Int) 30 : Int).toNat).length cc131, .slice Aa186 l185.length cc187])]) (by kernel_rfl) ?_
      clear hs; intro a hs
      obtain ⟨t220, hx221, H⟩ := bind_some H
      refine q_call hs (op := (Op.call { callee := (Callee.value (Operand.func 18)), args := #[(Operand.tmp 32), (Operand.tmp 33)], argTypes := #[26, 26] })) (ty := 4) (dst := some 34) (g := some (15, true)) (by kernel_rfl) (by kernel_rfl) (by kernel_rfl) (f := 18) (args := #[.agg #[.slice Aa32 (a0.Words.take (mnn (a0.Words.length : Int) 30 : Int).toNat).length cc33, .slice Aa38 (a0.Sites.take (mnn (a0.Sites.length : Int) 30 : Int).toNat).length cc39, .slice Aa94 l93.length cc95], .agg #[.slice Aa124 (a1.Words.take (mnn (a1.Words.length : Int) 30 : Int).toNat).length cc125, .slice Aa130 (a1.Sites.take (mnn (a1.Sites.length : Int) 30 : Int).toNat).length cc131, .slice Aa186 l185.length cc187]]) (v := .bool t220) (by kernel_rfl) (fun wx hbx => (rivetref09_Same.calls (⟨a0.Words.take (mnn (a0.Words.length : Int) 30 : Int).toNat, a0.Sites.take (mnn (a0.Sites.length : Int) 30 : Int).toNat, l93⟩ : Sapi_Obj) Aa32 cc33 Aa38 cc39 Aa94 cc95 (⟨a1.Words.take (mnn (a1.Words.length : Int) 30 : Int).toNat, a1.Sites.take (mnn (a1.Sites.length : Int) 30 : Int).toNat, l185⟩ : Sapi_Obj) Aa124 cc125 Aa130 cc131 Aa186 cc187 t220 _ ((hc35 _ (hr0_1.old hw)).below hbx) ((hc41 _ (hr0_2.old hw)).below hbx) ((Rd.of_own (hw.up 19)).below hbx) ((hc127 _ (hr1_1.old hw)).below hbx) ((hc133 _ (hr1_2.old hw)).below hbx) ((Rd.of_own (hw.up 5)).below hbx) hx221).mono ?_) [6, 7, 28, 31, 34] (L' := [(6, .pointer (some (⟨g99, 0, none⟩ : Addr))), (7, .pointer (some (⟨g191, 0, none⟩ : Addr))), (28, .bool true), (31, .bool t217), (34, .bool t220)]) (by kernel_rfl) ?_
      · rintro e wy ⟨rfl, hwy⟩
        exact ⟨rfl, below_st hbx hwy⟩
      clear hs; intro a hs
      refine q_pvs 22 25 [6, 7, 37] hs (L' := [(6, .pointer (some (⟨g99, 0, none⟩ : Addr))), (7, .pointer (some (⟨g191, 0, none⟩ : Addr))), (37, .bool (t217 == t220))]) (by kernel_rfl) ?_ rfl
      clear hs; intro a hs
      cases hb222 : (t217 == t220)
      ·replace H := ite_f H (ff hb222)
       rw [hb222] at hs
       refine q_pvs 25 39 [4] hs (L' := [(4, .bool false)]) (by kernel_rfl) ?_ rfl
       clear hs; intro a hs
       refine q_end (by kernel_rfl) ?_
       intro wq hbq
       replace hw := hw.behind hbq
       replace hw := hw.up 29
       replace hw := hw.up 29
       replace hw := hw.up 29
       replace hw := hw.up 29
       replace hw := hw.up 29
       replace hw := hw.up 29
       replace hw := hw.up 29
       replace hw := hw.up 29
       replace hw := hw.up 29
       replace hw := hw.up 29
       replace hw := hw.up 29
       replace hw := hw.up 29
       replace hw := hw.up 29
       replace hw := hw.up 29
       replace hw := hw.up 29
       replace hw := hw.up 29
       replace hw := hw.up 29
       replace hw := hw.up 29
       replace hw := hw.up 29
       replace hw := hw.up 29
       replace hw := hw.up 29
       replace hw := hw.up 29
       replace hw := hw.up 29
       replace hw := hw.up 29
       replace hw := hw.up 29
       replace hw := hw.up 29
       replace hw := hw.up 29
       replace hw := hw.up 29
       replace hw := hw.up 29
       replace hw := hw.up 29
       replace hw := hw.only 30
       exact hJ7 false _ _ (hs.keep [4] (by kernel_rfl)) hw H
      ·replace H := ite_t H hb222
       rw [hb222] at hs
       refine q_run hs (op := (Op.load 26 (Operand.tmp 6))) (ty := 26) (dst := some 38) (g := some (24, true)) (by kernel_rfl) (by kernel_rfl) (by kernel_rfl) (fun wx hbx => (x_blds (g := g99) (o := 0) (p := (⟨g99, 0, none⟩ : Addr)) (vs := [.slice Aa32 (a0.Words.take (mnn (a0.Words.length : Int) 30 : Int).toNat).length cc33, .slice Aa38 (a0.Sites.take (mnn (a0.Sites.length : Int) 30 : Int).toNat).length cc39, .slice Aa94 l93.length cc95]) ((hw.behind hbx).up 14) (by kernel_rfl) rfl (by kernel_rfl) (by kernel_rfl) (by kernel_rfl))) [6, 7, 37, 38] (L' := [(6, .pointer (some (⟨g99, 0, none⟩ : Addr))), (7, .pointer (some (⟨g191, 0, none⟩ : Addr))), (37, .bool true), (38, .agg #[.slice Aa32 (a0.Words.take (mnn (a0.Words.length : Int) 30 : Int).toNat).length cc33, .slice Aa38 (a0.Sites.take (mnn (a0.Sites.length : Int) 30 : Int).toNat).length cc39, .slice Aa94 l93.length cc95])]) (by kernel_rfl) ?_
       clear hs; intro a hs
       refine q_run hs (op := (Op.load 26 (Operand.tmp 6))) (ty := 26) (dst := some 39) (g := some (24, true)) (by kernel_rfl) (by kernel_rfl) (by kernel_rfl) (fun wx hbx => (x_blds (g := g99) (o := 0) (p := (⟨g99, 0, none⟩ : Addr)) (vs := [.slice Aa32 (a0.Words.take (mnn (a0.Words.length : Int) 30 : Int).toNat).length cc33, .slice Aa38 (a0.Sites.take (mnn (a0.Sites.length : Int) 30 : Int).toNat).length cc39, .slice Aa94 l93.length cc95]) ((hw.behind hbx).up 14) (by kernel_rfl) rfl (by kernel_rfl) (by kernel_rfl) (by kernel_rfl))) [6, 7, 37, 38, 39] (L' := [(6, .pointer (some (⟨g99, 0, none⟩ : Addr))), (7, .pointer (some (⟨g191, 0, none⟩ : Addr))), (37, .bool true), (38, .agg #[.slice Aa32 (a0.Words.take (mnn (a0.Words.length : Int) 30 : Int).toNat).length cc33, .slice Aa38 (a0.Sites.take (mnn (a0.Sites.length : Int) 30 : Int).toNat).length cc39, .slice Aa94 l93.length cc95]), (39, .agg #[.slice Aa32 (a0.Words.take (mnn (a0.Words.length : Int) 30 : Int).toNat).length cc33, .slice Aa38 (a0.Sites.take (mnn (a0.Sites.length : Int) 30 : Int).toNat).length cc39, .slice Aa94 l93.length cc95])]) (by kernel_rfl) ?_
       clear hs; intro a hs
       obtain ⟨t224, hx225, H⟩ := bind_some H
       refine q_call hs (op := (Op.call { callee := (Callee.value (Operand.func 17)), args := #[(Operand.tmp 38), (Operand.tmp 39)], argTypes := #[26, 26] })) (ty := 4) (dst := some 40) (g := some (24, true)) (by kernel_rfl) (by kernel_rfl) (by kernel_rfl) (f := 17) (args := #[.agg #[.slice Aa32 (a0.Words.take (mnn (a0.Words.length : Int) 30 : Int).toNat).length cc33, .slice Aa38 (a0.Sites.take (mnn (a0.Sites.length : Int) 30 : Int).toNat).length cc39, .slice Aa94 l93.length cc95], .agg #[.slice Aa32 (a0.Words.take (mnn (a0.Words.length : Int) 30 : Int).toNat).length cc33, .slice Aa38 (a0.Sites.take (mnn (a0.Sites.length : Int) 30 : Int).toNat).length cc39, .slice Aa94 l93.length cc95]]) (v := .bool t224) (by kernel_rfl) (fun wx hbx => (object_Same.calls (⟨a0.Words.take (mnn (a0.Words.length : Int) 30 : Int).toNat, a0.Sites.take (mnn (a0.Sites.length : Int) 30 : Int).toNat, l93⟩ : Sapi_Obj) Aa32 cc33 Aa38 cc39 Aa94 cc95 (⟨a0.Words.take (mnn (a0.Words.length : Int) 30 : Int).toNat, a0.Sites.take (mnn (a0.Sites.length : Int) 30 : Int).toNat, l93⟩ : Sapi_Obj) Aa32 cc33 Aa38 cc39 Aa94 cc95 t224 _ ((hc35 _ (hr0_1.old hw)).below hbx) ((hc41 _ (hr0_2.old hw)).below hbx) ((Rd.of_own (hw.up 19)).below hbx) ((hc35 _ (hr0_1.old hw)).below hbx) ((hc41 _ (hr0_2.old hw)).below hbx) ((Rd.of_own (hw.up 19)).below hbx) hx225).mono ?_) [6, 7, 37, 40] (L' := [(6, .pointer (some (⟨g99, 0, none⟩ : Addr))), (7, .pointer (some (⟨g191, 0, none⟩ : Addr))), (37, .bool true), (40, .bool t224)]) (by kernel_rfl) ?_
       · rintro e wy ⟨rfl, hwy⟩
         exact ⟨rfl, below_st hbx hwy⟩
       clear hs; intro a hs
       refine q_pvs 28 30 [6, 7, 42] hs (L' := [(6, .pointer (some (⟨g99, 0, none⟩ : Addr))), (7, .pointer (some (⟨g191, 0, none⟩ : Addr))), (42, .bool t224)]) (by kernel_rfl) ?_ rfl
       clear hs; intro a hs
       cases hb226 : t224
       ·replace H := ite_f H (ff hb226)
        rw [hb226] at hs
        refine q_pvs 30 39 [4] hs (L' := [(4, .bool false)]) (by kernel_rfl) ?_ rfl
        clear hs; intro a hs
        refine q_end (by kernel_rfl) ?_
        intro wq hbq
        replace hw := hw.behind hbq
        replace hw := hw.up 29
        replace hw := hw.up 29
        replace hw := hw.up 29
        replace hw := hw.up 29
        replace hw := hw.up 29
        replace hw := hw.up 29
        replace hw := hw.up 29
        replace hw := hw.up 29
        replace hw := hw.up 29
        replace hw := hw.up 29
        replace hw := hw.up 29
        replace hw := hw.up 29
        replace hw := hw.up 29
        replace hw := hw.up 29
        replace hw := hw.up 29
        replace hw := hw.up 29
        replace hw := hw.up 29
        replace hw := hw.up 29
        replace hw := hw.up 29
        replace hw := hw.up 29
        replace hw := hw.up 29
        replace hw := hw.up 29
        replace hw := hw.up 29
        replace hw := hw.up 29
        replace hw := hw.up 29
        replace hw := hw.up 29
        replace hw := hw.up 29
        replace hw := hw.up 29
        replace hw := hw.up 29
        replace hw := hw.up 29
        replace hw := hw.only 30
        exact hJ7 false _ _ (hs.keep [4] (by kernel_rfl)) hw H
       ·replace H := ite_t H hb226
        rw [hb226] at hs
        refine q_run hs (op := (Op.load 26 (Operand.tmp 7))) (ty := 26) (dst := some 43) (g := some (29, true)) (by kernel_rfl) (by kernel_rfl) (by kernel_rfl) (fun wx hbx => (x_blds (g := g191) (o := 0) (p := (⟨g191, 0, none⟩ : Addr)) (vs := [.slice Aa124 (a1.Words.take (mnn (a1.Words.length : Int) 30 : Int).toNat).length cc125, .slice Aa130 (a1.Sites.take (mnn (a1.Sites.length : Int) 30 : Int).toNat).length cc131, .slice Aa186 l185.length cc187]) ((hw.behind hbx).up 0) (by kernel_rfl) rfl (by kernel_rfl) (by kernel_rfl) (by kernel_rfl))) [6, 7, 42, 43] (L' := [(6, .pointer (some (⟨g99, 0, none⟩ : Addr))), (7, .pointer (some (⟨g191, 0, none⟩ : Addr))), (42, .bool true), (43, .agg #[.slice Aa124 (a1.Words.take (mnn (a1.Words.length : Int) 30 : Int).toNat).length cc125, .slice Aa130 (a1.Sites.take (mnn (a1.Sites.length : Int) 30 : Int).toNat).length cc131, .slice Aa186 l185.length cc187])]) (by kernel_rfl) ?_
        clear hs; intro a hs
        refine q_run hs (op := (Op.load 26 (Operand.tmp 6))) (ty := 26) (dst := some 44) (g := some (29, true)) (by kernel_rfl) (by kernel_rfl) (by kernel_rfl) (fun wx hbx => (x_blds (g := g99) (o := 0) (p := (⟨g99, 0, none⟩ : Addr)) (vs := [.slice Aa32 (a0.Words.take (mnn (a0.Words.length : Int) 30 : Int).toNat).length cc33, .slice Aa38 (a0.Sites.take (mnn (a0.Sites.length : Int) 30 : Int).toNat).length cc39, .slice Aa94 l93.length cc95]) ((hw.behind hbx).up 14) (by kernel_rfl) rfl (by kernel_rfl) (by kernel_rfl) (by kernel_rfl))) [6, 7, 42, 43, 44] (L' := [(6, .pointer (some (⟨g99, 0, none⟩ : Addr))), (7, .pointer (some (⟨g191, 0, none⟩ : Addr))), (42, .bool true), (43, .agg #[.slice Aa124 (a1.Words.take (mnn (a1.Words.length : Int) 30 : Int).toNat).length cc125, .slice Aa130 (a1.Sites.take (mnn (a1.Sites.length : Int) 30 : Int).toNat).length cc131, .slice Aa186 l185.length cc187]), (44, .agg #[.slice Aa32 (a0.Words.take (mnn (a0.Words.length : Int) 30 : Int).toNat).length cc33, .slice Aa38 (a0.Sites.take (mnn (a0.Sites.length : Int) 30 : Int).toNat).length cc39, .slice Aa94 l93.length cc95])]) (by kernel_rfl) ?_
        clear hs; intro a hs
        obtain ⟨t228, hx229, H⟩ := bind_some H
        refine q_call hs (op := (Op.call { callee := (Callee.value (Operand.func 17)), args := #[(Operand.tmp 43), (Operand.tmp 44)], argTypes := #[26, 26] })) (ty := 4) (dst := some 45) (g := some (29, true)) (by kernel_rfl) (by kernel_rfl) (by kernel_rfl) (f := 17) (args := #[.agg #[.slice Aa124 (a1.Words.take (mnn (a1.Words.length : Int) 30 : Int).toNat).length cc125, .slice Aa130 (a1.Sites.take (mnn (a1.Sites.length : Int) 30 : Int).toNat).length cc131, .slice Aa186 l185.length cc187], .agg #[.slice Aa32 (a0.Words.take (mnn (a0.Words.length : Int) 30 : Int).toNat).length cc33, .slice Aa38 (a0.Sites.take (mnn (a0.Sites.length : Int) 30 : Int).toNat).length cc39, .slice Aa94 l93.length cc95]]) (v := .bool t228) (by kernel_rfl) (fun wx hbx => (object_Same.calls (⟨a1.Words.take (mnn (a1.Words.length : Int) 30 : Int).toNat, a1.Sites.take (mnn (a1.Sites.length : Int) 30 : Int).toNat, l185⟩ : Sapi_Obj) Aa124 cc125 Aa130 cc131 Aa186 cc187 (⟨a0.Words.take (mnn (a0.Words.length : Int) 30 : Int).toNat, a0.Sites.take (mnn (a0.Sites.length : Int) 30 : Int).toNat, l93⟩ : Sapi_Obj) Aa32 cc33 Aa38 cc39 Aa94 cc95 t228 _ ((hc127 _ (hr1_1.old hw)).below hbx) ((hc133 _ (hr1_2.old hw)).below hbx) ((Rd.of_own (hw.up 5)).below hbx) ((hc35 _ (hr0_1.old hw)).below hbx) ((hc41 _ (hr0_2.old hw)).below hbx) ((Rd.of_own (hw.up 19)).below hbx) hx229).mono ?_) [6, 7, 42, 45] (L' := [(6, .pointer (some (⟨g99, 0, none⟩ : Addr))), (7, .pointer (some (⟨g191, 0, none⟩ : Addr))), (42, .bool true), (45, .bool t228)]) (by kernel_rfl) ?_
        · rintro e wy ⟨rfl, hwy⟩
          exact ⟨rfl, below_st hbx hwy⟩
        clear hs; intro a hs
        refine q_run hs (op := (Op.load 26 (Operand.tmp 6))) (ty := 26) (dst := some 46) (g := some (29, true)) (by kernel_rfl) (by kernel_rfl) (by kernel_rfl) (fun wx hbx => (x_blds (g := g99) (o := 0) (p := (⟨g99, 0, none⟩ : Addr)) (vs := [.slice Aa32 (a0.Words.take (mnn (a0.Words.length : Int) 30 : Int).toNat).length cc33, .slice Aa38 (a0.Sites.take (mnn (a0.Sites.length : Int) 30 : Int).toNat).length cc39, .slice Aa94 l93.length cc95]) ((hw.behind hbx).up 14) (by kernel_rfl) rfl (by kernel_rfl) (by kernel_rfl) (by kernel_rfl))) [7, 42, 45, 46] (L' := [(7, .pointer (some (⟨g191, 0, none⟩ : Addr))), (42, .bool true), (45, .bool t228), (46, .agg #[.slice Aa32 (a0.Words.take (mnn (a0.Words.length : Int) 30 : Int).toNat).length cc33, .slice Aa38 (a0.Sites.take (mnn (a0.Sites.length : Int) 30 : Int).toNat).length cc39, .slice Aa94 l93.length cc95])]) (by kernel_rfl) ?_
        clear hs; intro a hs
        refine q_run hs (op := (Op.load 26 (Operand.tmp 7))) (ty := 26) (dst := some 47) (g := some (29, true)) (by kernel_rfl) (by kernel_rfl) (by kernel_rfl) (fun wx hbx => (x_blds (g := g191) (o := 0) (p := (⟨g191, 0, none⟩ : Addr)) (vs := [.slice Aa124 (a1.Words.take (mnn (a1.Words.length : Int) 30 : Int).toNat).length cc125, .slice Aa130 (a1.Sites.take (mnn (a1.Sites.length : Int) 30 : Int).toNat).length cc131, .slice Aa186 l185.length cc187]) ((hw.behind hbx).up 0) (by kernel_rfl) rfl (by kernel_rfl) (by kernel_rfl) (by kernel_rfl))) [42, 45, 46, 47] (L' := [(42, .bool true), (45, .bool t228), (46, .agg #[.slice Aa32 (a0.Words.take (mnn (a0.Words.length : Int) 30 : Int).toNat).length cc33, .slice Aa38 (a0.Sites.take (mnn (a0.Sites.length : Int) 30 : Int).toNat).length cc39, .slice Aa94 l93.length cc95]), (47, .agg #[.slice Aa124 (a1.Words.take (mnn (a1.Words.length : Int) 30 : Int).toNat).length cc125, .slice Aa130 (a1.Sites.take (mnn (a1.Sites.length : Int) 30 : Int).toNat).length cc131, .slice Aa186 l185.length cc187])]) (by kernel_rfl) ?_
        clear hs; intro a hs
        obtain ⟨t231, hx232, H⟩ := bind_some H
        refine q_call hs (op := (Op.call { callee := (Callee.value (Operand.func 17)), args := #[(Operand.tmp 46), (Operand.tmp 47)], argTypes := #[26, 26] })) (ty := 4) (dst := some 48) (g := some (29, true)) (by kernel_rfl) (by kernel_rfl) (by kernel_rfl) (f := 17) (args := #[.agg #[.slice Aa32 (a0.Words.take (mnn (a0.Words.length : Int) 30 : Int).toNat).length cc33, .slice Aa38 (a0.Sites.take (mnn (a0.Sites.length : Int) 30 : Int).toNat).length cc39, .slice Aa94 l93.length cc95], .agg #[.slice Aa124 (a1.Words.take (mnn (a1.Words.length : Int) 30 : Int).toNat).length cc125, .slice Aa130 (a1.Sites.take (mnn (a1.Sites.length : Int) 30 : Int).toNat).length cc131, .slice Aa186 l185.length cc187]]) (v := .bool t231) (by kernel_rfl) (fun wx hbx => (object_Same.calls (⟨a0.Words.take (mnn (a0.Words.length : Int) 30 : Int).toNat, a0.Sites.take (mnn (a0.Sites.length : Int) 30 : Int).toNat, l93⟩ : Sapi_Obj) Aa32 cc33 Aa38 cc39 Aa94 cc95 (⟨a1.Words.take (mnn (a1.Words.length : Int) 30 : Int).toNat, a1.Sites.take (mnn (a1.Sites.length : Int) 30 : Int).toNat, l185⟩ : Sapi_Obj) Aa124 cc125 Aa130 cc131 Aa186 cc187 t231 _ ((hc35 _ (hr0_1.old hw)).below hbx) ((hc41 _ (hr0_2.old hw)).below hbx) ((Rd.of_own (hw.up 19)).below hbx) ((hc127 _ (hr1_1.old hw)).below hbx) ((hc133 _ (hr1_2.old hw)).below hbx) ((Rd.of_own (hw.up 5)).below hbx) hx232).mono ?_) [42, 45, 48] (L' := [(42, .bool true), (45, .bool t228), (48, .bool t231)]) (by kernel_rfl) ?_
        · rintro e wy ⟨rfl, hwy⟩
          exact ⟨rfl, below_st hbx hwy⟩
        clear hs; intro a hs
        refine q_pvs 36 39 [4] hs (L' := [(4, .bool (t228 == t231))]) (by kernel_rfl) ?_ rfl
        clear hs; intro a hs
        refine q_end (by kernel_rfl) ?_
        intro wq hbq
        replace hw := hw.behind hbq
        replace hw := hw.up 29
        replace hw := hw.up 29
        replace hw := hw.up 29
        replace hw := hw.up 29
        replace hw := hw.up 29
        replace hw := hw.up 29
        replace hw := hw.up 29
        replace hw := hw.up 29
        replace hw := hw.up 29
        replace hw := hw.up 29
        replace hw := hw.up 29
        replace hw := hw.up 29
        replace hw := hw.up 29
        replace hw := hw.up 29
        replace hw := hw.up 29
        replace hw := hw.up 29
        replace hw := hw.up 29
        replace hw := hw.up 29
        replace hw := hw.up 29
        replace hw := hw.up 29
        replace hw := hw.up 29
        replace hw := hw.up 29
        replace hw := hw.up 29
        replace hw := hw.up 29
        replace hw := hw.up 29
        replace hw := hw.up 29
        replace hw := hw.up 29
        replace hw := hw.up 29
        replace hw := hw.up 29
        replace hw := hw.up 29
        replace hw := hw.only 30
        exact hJ7 (t228 == t231) _ _ (hs.keep [4] (by kernel_rfl)) hw H
  clear H
  refine go_loop (σ := (List Sapi_Sym) × Int) (fun σ a w => ∃ Aa149, ∃ cc150, Slots a 52 [(1, .pointer (some (⟨g111, 0, none⟩ : Addr))), (2, .pointer (some (⟨g115, 0, none⟩ : Addr))), (3, .pointer (some (⟨g135, 0, none⟩ : Addr))), (4, .int .i64 σ.2)] ∧ St [] w0 w [own 39 eSapi_Sym Aa149 cc150 σ.1, box g135 26 [.slice Aa124 (a1.Words.take (mnn (a1.Words.length : Int) 30 : Int).toNat).length cc125, .slice Aa130 (a1.Sites.take (mnn (a1.Sites.length : Int) 30 : Int).toNat).length cc131, .slice Aa149 σ.1.length cc150], own 39 eSapi_Sym none 0 ([] : List Sapi_Sym), own 3 (eI .i64) none 0 ([] : List Int), own 37 (eI .u32) none 0 ([] : List Int), own 39 eSapi_Sym none 0 ([] : List Sapi_Sym), own 3 (eI .i64) none 0 ([] : List Int), own 37 (eI .u32) none 0 ([] : List Int), box g115 26 [.slice none ([] : List Int).length 0, .slice none ([] : List Int).length 0, .slice none ([] : List Sapi_Sym).length 0], box g111 26 [.slice A1_1 a1.Words.length c1_1, .slice A1_2 a1.Sites.length c1_2, .slice A1_3 a1.Syms.length c1_3], box g99 26 [.slice Aa32 (a0.Words.take (mnn (a0.Words.length : Int) 30 : Int).toNat).length cc33, .slice Aa38 (a0.Sites.take (mnn (a0.Sites.length : Int) 30 : Int).toNat).length cc39, .slice Aa94 l93.length cc95], own 39 eSapi_Sym none 0 ([] : List Sapi_Sym), own 3 (eI .i64) none 0 ([] : List Int), own 37 (eI .u32) none 0 ([] : List Int), box g23 26 [.slice Aa32 (a0.Words.take (mnn (a0.Words.length : Int) 30 : Int).toNat).length cc33, .slice Aa38 (a0.Sites.take (mnn (a0.Sites.length : Int) 30 : Int).toNat).length cc39, .slice Aa94 l93.length cc95], own 39 eSapi_Sym Aa94 cc95 l93, box g43 26 [.slice Aa32 (a0.Words.take (mnn (a0.Words.length : Int) 30 : Int).toNat).length cc33, .slice Aa38 (a0.Sites.take (mnn (a0.Sites.length : Int) 30 : Int).toNat).length cc39, .slice Aa94 l93.length cc95], own 39 eSapi_Sym none 0 ([] : List Sapi_Sym), own 3 (eI .i64) none 0 ([] : List Int), own 37 (eI .u32) none 0 ([] : List Int), own 39 eSapi_Sym none 0 ([] : List Sapi_Sym), own 3 (eI .i64) none 0 ([] : List Int), own 37 (eI .u32) none 0 ([] : List Int), box g19 26 [.slice A0_1 a0.Words.length c0_1, .slice A0_2 a0.Sites.length c0_2, .slice A0_3 a0.Syms.length c0_3], box g6 26 [.slice A1_1 a1.Words.length c1_1, .slice A1_2 a1.Sites.length c1_2, .slice A1_3 a1.Syms.length c1_3], box g2 26 [.slice A0_1 a0.Words.length c0_1, .slice A0_2 a0.Sites.length c0_2, .slice A0_3 a0.Syms.length c0_3]]) hl147 (by exact ⟨none, 0, hs.keep [1, 2, 3, 4] (by kernel_rfl), hw⟩) ?_
  rintro ⟨l148, v151⟩ a w ⟨Aa149, cc150, hs, hw⟩ o H hr147
  replace hs : Slots a 52 [(1, .pointer (some (⟨g111, 0, none⟩ : Addr))), (2, .pointer (some (⟨g115, 0, none⟩ : Addr))), (3, .pointer (some (⟨g135, 0, none⟩ : Addr))), (4, .int .i64 v151)] := hs
  replace hw : St [] w0 w [own 39 eSapi_Sym Aa149 cc150 l148, box g135 26 [.slice Aa124 (a1.Words.take (mnn (a1.Words.length : Int) 30 : Int).toNat).length cc125, .slice Aa130 (a1.Sites.take (mnn (a1.Sites.length : Int) 30 : Int).toNat).length cc131, .slice Aa149 l148.length cc150], own 39 eSapi_Sym none 0 ([] : List Sapi_Sym), own 3 (eI .i64) none 0 ([] : List Int), own 37 (eI .u32) none 0 ([] : List Int), own 39 eSapi_Sym none 0 ([] : List Sapi_Sym), own 3 (eI .i64) none 0 ([] : List Int), own 37 (eI .u32) none 0 ([] : List Int), box g115 26 [.slice none ([] : List Int).length 0, .slice none ([] : List Int).length 0, .slice none ([] : List Sapi_Sym).length 0], box g111 26 [.slice A1_1 a1.Words.length c1_1, .slice A1_2 a1.Sites.length c1_2, .slice A1_3 a1.Syms.length c1_3], box g99 26 [.slice Aa32 (a0.Words.take (mnn (a0.Words.length : Int) 30 : Int).toNat).length cc33, .slice Aa38 (a0.Sites.take (mnn (a0.Sites.length : Int) 30 : Int).toNat).length cc39, .slice Aa94 l93.length cc95], own 39 eSapi_Sym none 0 ([] : List Sapi_Sym), own 3 (eI .i64) none 0 ([] : List Int), own 37 (eI .u32) none 0 ([] : List Int), box g23 26 [.slice Aa32 (a0.Words.take (mnn (a0.Words.length : Int) 30 : Int).toNat).length cc33, .slice Aa38 (a0.Sites.take (mnn (a0.Sites.length : Int) 30 : Int).toNat).length cc39, .slice Aa94 l93.length cc95], own 39 eSapi_Sym Aa94 cc95 l93, box g43 26 [.slice Aa32 (a0.Words.take (mnn (a0.Words.length : Int) 30 : Int).toNat).length cc33, .slice Aa38 (a0.Sites.take (mnn (a0.Sites.length : Int) 30 : Int).toNat).length cc39, .slice Aa94 l93.length cc95], own 39 eSapi_Sym none 0 ([] : List Sapi_Sym), own 3 (eI .i64) none 0 ([] : List Int), own 37 (eI .u32) none 0 ([] : List Int), own 39 eSapi_Sym none 0 ([] : List Sapi_Sym), own 3 (eI .i64) none 0 ([] : List Int), own 37 (eI .u32) none 0 ([] : List Int), box g19 26 [.slice A0_1 a0.Words.length c0_1, .slice A0_2 a0.Sites.length c0_2, .slice A0_3 a0.Syms.length c0_3], box g6 26 [.slice A1_1 a1.Words.length c1_1, .slice A1_2 a1.Sites.length c1_2, .slice A1_3 a1.Syms.length c1_3], box g2 26 [.slice A0_1 a0.Words.length c0_1, .slice A0_2 a0.Sites.length c0_2, .slice A0_3 a0.Syms.length c0_3]] := hw
  replace H : rivetlaw09_ObjectAll.b147 a1 l148 v151 = some o := H
  unfold rivetlaw09_ObjectAll.b147 at H
  refine go_seq_k fun K152 hK152 => ?_
  have hJ5 : ∀ (a : Act) (w : World), Slots a 52 [(1, .pointer (some (⟨g111, 0, none⟩ : Addr))), (2, .pointer (some (⟨g115, 0, none⟩ : Addr))), (3, .pointer (some (⟨g135, 0, none⟩ : Addr))), (4, .int .i64 v151)] → St [] w0 w [own 39 eSapi_Sym Aa149 cc150 l148, box g135 26 [.slice Aa124 (a1.Words.take (mnn (a1.Words.length : Int) 30 : Int).toNat).length cc125, .slice Aa130 (a1.Sites.take (mnn (a1.Sites.length : Int) 30 : Int).toNat).length cc131, .slice Aa149 l148.length cc150], own 39 eSapi_Sym none 0 ([] : List Sapi_Sym), own 3 (eI .i64) none 0 ([] : List Int), own 37 (eI .u32) none 0 ([] : List Int), own 39 eSapi_Sym none 0 ([] : List Sapi_Sym), own 3 (eI .i64) none 0 ([] : List Int), own 37 (eI .u32) none 0 ([] : List Int), box g115 26 [.slice none ([] : List Int).length 0, .slice none ([] : List Int).length 0, .slice none ([] : List Sapi_Sym).length 0], box g111 26 [.slice A1_1 a1.Words.length c1_1, .slice A1_2 a1.Sites.length c1_2, .slice A1_3 a1.Syms.length c1_3], box g99 26 [.slice Aa32 (a0.Words.take (mnn (a0.Words.length : Int) 30 : Int).toNat).length cc33, .slice Aa38 (a0.Sites.take (mnn (a0.Sites.length : Int) 30 : Int).toNat).length cc39, .slice Aa94 l93.length cc95], own 39 eSapi_Sym none 0 ([] : List Sapi_Sym), own 3 (eI .i64) none 0 ([] : List Int), own 37 (eI .u32) none 0 ([] : List Int), box g23 26 [.slice Aa32 (a0.Words.take (mnn (a0.Words.length : Int) 30 : Int).toNat).length cc33, .slice Aa38 (a0.Sites.take (mnn (a0.Sites.length : Int) 30 : Int).toNat).length cc39, .slice Aa94 l93.length cc95], own 39 eSapi_Sym Aa94 cc95 l93, box g43 26 [.slice Aa32 (a0.Words.take (mnn (a0.Words.length : Int) 30 : Int).toNat).length cc33, .slice Aa38 (a0.Sites.take (mnn (a0.Sites.length : Int) 30 : Int).toNat).length cc39, .slice Aa94 l93.length cc95], own 39 eSapi_Sym none 0 ([] : List Sapi_Sym), own 3 (eI .i64) none 0 ([] : List Int), own 37 (eI .u32) none 0 ([] : List Int), own 39 eSapi_Sym none 0 ([] : List Sapi_Sym), own 3 (eI .i64) none 0 ([] : List Int), own 37 (eI .u32) none 0 ([] : List Int), box g19 26 [.slice A0_1 a0.Words.length c0_1, .slice A0_2 a0.Sites.length c0_2, .slice A0_3 a0.Syms.length c0_3], box g6 26 [.slice A1_1 a1.Words.length c1_1, .slice A1_2 a1.Sites.length c1_2, .slice A1_3 a1.Syms.length c1_3], box g2 26 [.slice A0_1 a0.Words.length c0_1, .slice A0_2 a0.Sites.length c0_2, .slice A0_3 a0.Syms.length c0_3]] → rivetlaw09_ObjectAll.j5 v151 a1 l148 = some o → K152 a w := by
   intro a w hs hw H
   unfold rivetlaw09_ObjectAll.j5 at H
   refine hK152 _ _ ?_
   refine go_seq_k fun K158 hK158 => ?_
   refine wp_block ?_
   refine go_seq_k fun K159 hK159 => ?_
   refine go_region ?_
   refine go_pvs 0 1 [1, 2, 3, 4, 32] hs (L' := [(1, .pointer (some (⟨g111, 0, none⟩ : Addr))), (2, .pointer (some (⟨g115, 0, none⟩ : Addr))), (3, .pointer (some (⟨g135, 0, none⟩ : Addr))), (4, .int .i64 v151), (32, .pointer (some (((⟨g111, 0, none⟩ : Addr) : Addr).add 2)))]) (by kernel_rfl) ?_ rfl
   clear hs; intro a hs
   refine go_run hs (op := (Op.load 24 (Operand.tmp 32))) (ty := 24) (dst := some 33) (g := none) (by kernel_rfl) (by kernel_rfl) (by kernel_rfl) (x_bld (g := g111) (o := 2) (p := ((⟨g111, 0, none⟩ : Addr) : Addr).add 2) (v := .slice A1_3 a1.Syms.length c1_3) (hw.up 9) (by kernel_rfl) rfl (by kernel_rfl) (by kernel_rfl)) [1, 2, 3, 4, 33] (L' := [(1, .pointer (some (⟨g111, 0, none⟩ : Addr))), (2, .pointer (some (⟨g115, 0, none⟩ : Addr))), (3, .pointer (some (⟨g135, 0, none⟩ : Addr))), (4, .int .i64 v151), (33, .slice A1_3 a1.Syms.length c1_3)]) (by kernel_rfl) ?_
   clear hs; intro a hs
   refine go_pvs 2 3 [1, 2, 3, 4, 33, 34] hs (L' := [(1, .pointer (some (⟨g111, 0, none⟩ : Addr))), (2, .pointer (some (⟨g115, 0, none⟩ : Addr))), (3, .pointer (some (⟨g135, 0, none⟩ : Addr))), (4, .int .i64 v151), (33, .slice A1_3 a1.Syms.length c1_3), (34, .int .i64 v151)]) (by kernel_rfl) ?_ rfl
   clear hs; intro a hs
   obtain ⟨hp160, H⟩ := ite_only H
   obtain ⟨ad161, rfl⟩ := (hr1_3.old hw).some hp160.1 hp160.2
   refine go_run hs (op := (Op.indexAddr 24 (Operand.tmp 33) (Operand.tmp 34))) (ty := 0) (dst := some 35) (g := none) (by kernel_rfl) (by kernel_rfl) (by kernel_rfl) (x_idx (T := 39) (sz := 2) (a := ad161) (n := a1.Syms.length) (cap := c1_3) (k := .i64) (i := v151) (by kernel_rfl) (by kernel_rfl) (by kernel_rfl) (by kernel_rfl) hp160.1 hp160.2) [1, 2, 3, 4, 35] (L' := [(1, .pointer (some (⟨g111, 0, none⟩ : Addr))), (2, .pointer (some (⟨g115, 0, none⟩ : Addr))), (3, .pointer (some (⟨g135, 0, none⟩ : Addr))), (4, .int .i64 v151), (35, .pointer (some (ad161.add (v151.toNat * 2))))]) (by kernel_rfl) ?_
   clear hs; intro a hs
   refine go_run hs (op := (Op.load 39 (Operand.tmp 35))) (ty := 39) (dst := some 36) (g := none) (by kernel_rfl) (by kernel_rfl) (by kernel_rfl) (x_lds (E := eSapi_Sym) (off := 0) (p := ad161.add (v151.toNat * 2)) (cs := [.string ((ix eSapi_Sym.d a1.Syms v151).Name), .int .i64 ((ix eSapi_Sym.d a1.Syms v151).At)]) (hr1_3.old hw) hp160.1 hp160.2 (by kernel_rfl) rfl (by kernel_rfl) (by kernel_rfl) (by kernel_rfl)) [1, 2, 3, 4, 36] (L' := [(1, .pointer (some (⟨g111, 0, none⟩ : Addr))), (2, .pointer (some (⟨g115, 0, none⟩ : Addr))), (3, .pointer (some (⟨g135, 0, none⟩ : Addr))), (4, .int .i64 v151), (36, .agg #[.string ((ix eSapi_Sym.d a1.Syms v151).Name), .int .i64 ((ix eSapi_Sym.d a1.Syms v151).At)])]) (by kernel_rfl) ?_
   clear hs; intro a hs
   obtain ⟨ad162, wd163, hx164, hw⟩ := x_alloc1 (P := Tryd.prog) (elem := 39) (ty := 0) (z := .agg #[.string (⟨#[]⟩ : ByteArray), .int .i64 0]) hs hw eSapi_Sym (⟨(⟨#[]⟩ : ByteArray), 0⟩ : Sapi_Sym) (by kernel_rfl) (by kernel_rfl)
   refine go_run hs (op := (Op.alloc 39)) (ty := 0) (dst := some 5) (g := none) (by kernel_rfl) (by kernel_rfl) (by kernel_rfl) hx164 [1, 2, 3, 4, 5, 36] (L' := [(1, .pointer (some (⟨g111, 0, none⟩ : Addr))), (2, .pointer (some (⟨g115, 0, none⟩ : Addr))), (3, .pointer (some (⟨g135, 0, none⟩ : Addr))), (4, .int .i64 v151), (5, .pointer (some ad162)), (36, .agg #[.string ((ix eSapi_Sym.d a1.Syms v151).Name), .int .i64 ((ix eSapi_Sym.d a1.Syms v151).At)])]) (by kernel_rfl) ?_
   clear hs; intro a hs
   obtain ⟨wd166, hx167, hw⟩ := x_put (P := Tryd.prog) (ty := 0) (t := 39) (x := (Operand.tmp 5)) (y := (Operand.tmp 36)) (off := 0) (p := ad162) (v := .agg #[.string ((ix eSapi_Sym.d a1.Syms v151).Name), .int .i64 ((ix eSapi_Sym.d a1.Syms v151).At)]) (vs := [.string ((ix eSapi_Sym.d a1.Syms v151).Name), .int .i64 ((ix eSapi_Sym.d a1.Syms v151).At)]) (i := 0) (e' := (((ix eSapi_Sym.d a1.Syms v151) : Sapi_Sym) : Sapi_Sym)) hs hw rfl (one_ok (⟨(⟨#[]⟩ : ByteArray), 0⟩ : Sapi_Sym)).1 (one_ok (⟨(⟨#[]⟩ : ByteArray), 0⟩ : Sapi_Sym)).2 (by kernel_rfl) (one_at _ _) (by kernel_rfl) rfl (by kernel_rfl) (Nat.le_of_ble_eq_true rfl) (by simp [Value.oneCell']) (by kernel_rfl)
   refine go_unit hs (op := (Op.store 39 (Operand.tmp 5) (Operand.tmp 36))) (ty := 0) (dst := none) (g := none) (by kernel_rfl) (by kernel_rfl) (by kernel_rfl) hx167 [1, 2, 3, 4, 5] (L' := [(1, .pointer (some (⟨g111, 0, none⟩ : Addr))), (2, .pointer (some (⟨g115, 0, none⟩ : Addr))), (3, .pointer (some (⟨g135, 0, none⟩ : Addr))), (4, .int .i64 v151), (5, .pointer (some ad162))]) (by kernel_rfl) ?_
   clear hs; intro a hs
   replace hw : St [] w0 wd166 [own 39 eSapi_Sym (some ad162) 1 [((ix eSapi_Sym.d a1.Syms v151) : Sapi_Sym)], own 39 eSapi_Sym Aa149 cc150 l148, box g135 26 [.slice Aa124 (a1.Words.take (mnn (a1.Words.length : Int) 30 : Int).toNat).length cc125, .slice Aa130 (a1.Sites.take (mnn (a1.Sites.length : Int) 30 : Int).toNat).length cc131, .slice Aa149 l148.length cc150], own 39 eSapi_Sym none 0 ([] : List Sapi_Sym), own 3 (eI .i64) none 0 ([] : List Int), own 37 (eI .u32) none 0 ([] : List Int), own 39 eSapi_Sym none 0 ([] : List Sapi_Sym), own 3 (eI .i64) none 0 ([] : List Int), own 37 (eI .u32) none 0 ([] : List Int), box g115 26 [.slice none ([] : List Int).length 0, .slice none ([] : List Int).length 0, .slice none ([] : List Sapi_Sym).length 0], box g111 26 [.slice A1_1 a1.Words.length c1_1, .slice A1_2 a1.Sites.length c1_2, .slice (some ad161) a1.Syms.length c1_3], box g99 26 [.slice Aa32 (a0.Words.take (mnn (a0.Words.length : Int) 30 : Int).toNat).length cc33, .slice Aa38 (a0.Sites.take (mnn (a0.Sites.length : Int) 30 : Int).toNat).length cc39, .slice Aa94 l93.length cc95], own 39 eSapi_Sym none 0 ([] : List Sapi_Sym), own 3 (eI .i64) none 0 ([] : List Int), own 37 (eI .u32) none 0 ([] : List Int), box g23 26 [.slice Aa32 (a0.Words.take (mnn (a0.Words.length : Int) 30 : Int).toNat).length cc33, .slice Aa38 (a0.Sites.take (mnn (a0.Sites.length : Int) 30 : Int).toNat).length cc39, .slice Aa94 l93.length cc95], own 39 eSapi_Sym Aa94 cc95 l93, box g43 26 [.slice Aa32 (a0.Words.take (mnn (a0.Words.length : Int) 30 : Int).toNat).length cc33, .slice Aa38 (a0.Sites.take (mnn (a0.Sites.length : Int) 30 : Int).toNat).length cc39, .slice Aa94 l93.length cc95], own 39 eSapi_Sym none 0 ([] : List Sapi_Sym), own 3 (eI .i64) none 0 ([] : List Int), own 37 (eI .u32) none 0 ([] : List Int), own 39 eSapi_Sym none 0 ([] : List Sapi_Sym), own 3 (eI .i64) none 0 ([] : List Int), own 37 (eI .u32) none 0 ([] : List Int), box g19 26 [.slice A0_1 a0.Words.length c0_1, .slice A0_2 a0.Sites.length c0_2, .slice A0_3 a0.Syms.length c0_3], box g6 26 [.slice A1_1 a1.Words.length c1_1, .slice A1_2 a1.Sites.length c1_2, .slice (some ad161) a1.Syms.length c1_3], box g2 26 [.slice A0_1 a0.Words.length c0_1, .slice A0_2 a0.Sites.length c0_2, .slice A0_3 a0.Syms.length c0_3]] := hw
   refine go_end (by kernel_rfl) ?_
   refine hK159 _ _ ?_
   refine go_seq_k fun K168 hK168 => ?_
   refine go_region ?_
   refine go_pvs 0 1 [1, 2, 3, 4, 5, 37] hs (L' := [(1, .pointer (some (⟨g111, 0, none⟩ : Addr))), (2, .pointer (some (⟨g115, 0, none⟩ : Addr))), (3, .pointer (some (⟨g135, 0, none⟩ : Addr))), (4, .int .i64 v151), (5, .pointer (some ad162)), (37, .pointer (some ((ad162 : Addr).add 0)))]) (by kernel_rfl) ?_ rfl
   clear hs; intro a hs
   refine go_run hs (op := (Op.load 9 (Operand.tmp 37))) (ty := 9) (dst := some 38) (g := none) (by kernel_rfl) (by kernel_rfl) (by kernel_rfl) (x_ld (E := eSapi_Sym) (off := 0) (p := (ad162 : Addr).add 0) (v := .string (((ix eSapi_Sym.d a1.Syms v151) : Sapi_Sym).Name)) (Rd.of_own (hw.up 0)) (one_ok ((ix eSapi_Sym.d a1.Syms v151) : Sapi_Sym)).1 (one_ok ((ix eSapi_Sym.d a1.Syms v151) : Sapi_Sym)).2 (by kernel_rfl) (one_off _ _ _) (by kernel_rfl) (by kernel_rfl)) [1, 2, 3, 4, 5, 38] (L' := [(1, .pointer (some (⟨g111, 0, none⟩ : Addr))), (2, .pointer (some (⟨g115, 0, none⟩ : Addr))), (3, .pointer (some (⟨g135, 0, none⟩ : Addr))), (4, .int .i64 v151), (5, .pointer (some ad162)), (38, .string (((ix eSapi_Sym.d a1.Syms v151) : Sapi_Sym).Name))]) (by kernel_rfl) ?_
   clear hs; intro a hs
   refine go_pvs 2 3 [1, 2, 3, 4, 5, 38, 39] hs (L' := [(1, .pointer (some (⟨g111, 0, none⟩ : Addr))), (2, .pointer (some (⟨g115, 0, none⟩ : Addr))), (3, .pointer (some (⟨g135, 0, none⟩ : Addr))), (4, .int .i64 v151), (5, .pointer (some ad162)), (38, .string (((ix eSapi_Sym.d a1.Syms v151) : Sapi_Sym).Name)), (39, .pointer (some ((ad162 : Addr).add 0)))]) (by kernel_rfl) ?_ rfl
   clear hs; intro a hs
   refine go_run hs (op := (Op.load 9 (Operand.tmp 39))) (ty := 9) (dst := some 40) (g := none) (by kernel_rfl) (by kernel_rfl) (by kernel_rfl) (x_ld (E := eSapi_Sym) (off := 0) (p := (ad162 : Addr).add 0) (v := .string (((ix eSapi_Sym.d a1.Syms v151) : Sapi_Sym).Name)) (Rd.of_own (hw.up 0)) (one_ok ((ix eSapi_Sym.d a1.Syms v151) : Sapi_Sym)).1 (one_ok ((ix eSapi_Sym.d a1.Syms v151) : Sapi_Sym)).2 (by kernel_rfl) (one_off _ _ _) (by kernel_rfl) (by kernel_rfl)) [1, 2, 3, 4, 5, 38, 40] (L' := [(1, .pointer (some (⟨g111, 0, none⟩ : Addr))), (2, .pointer (some (⟨g115, 0, none⟩ : Addr))), (3, .pointer (some (⟨g135, 0, none⟩ : Addr))), (4, .int .i64 v151), (5, .pointer (some ad162)), (38, .string (((ix eSapi_Sym.d a1.Syms v151) : Sapi_Sym).Name)), (40, .string (((ix eSapi_Sym.d a1.Syms v151) : Sapi_Sym).Name))]) (by kernel_rfl) ?_
   clear hs; intro a hs
   refine go_pvs 4 6 [1, 2, 3, 4, 5, 38, 42] hs (L' := [(1, .pointer (some (⟨g111, 0, none⟩ : Addr))), (2, .pointer (some (⟨g115, 0, none⟩ : Addr))), (3, .pointer (some (⟨g135, 0, none⟩ : Addr))), (4, .int .i64 v151), (5, .pointer (some ad162)), (38, .string (((ix eSapi_Sym.d a1.Syms v151) : Sapi_Sym).Name)), (42, .int .i64 (mnn ((((ix eSapi_Sym.d a1.Syms v151) : Sapi_Sym).Name).size : Int) 20))]) (by kernel_rfl) ?_ rfl
   clear hs; intro a hs
   obtain ⟨hp169, H⟩ := ite_only H
   refine go_run hs (op := (Op.slice 9 (Operand.tmp 38) none (some (Operand.tmp 42)) none)) (ty := 9) (dst := some 43) (g := none) (by kernel_rfl) (by kernel_rfl) (by kernel_rfl) (x_scut (s := ((ix eSapi_Sym.d a1.Syms v151) : Sapi_Sym).Name) (k := .i64) (k' := .i64) (l0 := (0 : Int)) (h := (mnn ((((ix eSapi_Sym.d a1.Syms v151) : Sapi_Sym).Name).size : Int) 20)) (by kernel_rfl) (by kernel_rfl) (Or.inr ⟨rfl, rfl⟩) (Or.inl (by kernel_rfl)) hp169.1 hp169.2.1 hp169.2.2) [1, 2, 3, 4, 5, 43] (L' := [(1, .pointer (some (⟨g111, 0, none⟩ : Addr))), (2, .pointer (some (⟨g115, 0, none⟩ : Addr))), (3, .pointer (some (⟨g135, 0, none⟩ : Addr))), (4, .int .i64 v151), (5, .pointer (some ad162)), (43, .string ((((ix eSapi_Sym.d a1.Syms v151) : Sapi_Sym).Name).extract ((0 : Int) : Int).toNat ((mnn ((((ix eSapi_Sym.d a1.Syms v151) : Sapi_Sym).Name).size : Int) 20) : Int).toNat))]) (by kernel_rfl) ?_
   clear hs; intro a hs
   refine go_pvs 7 8 [1, 2, 3, 4, 5, 43, 44] hs (L' := [(1, .pointer (some (⟨g111, 0, none⟩ : Addr))), (2, .pointer (some (⟨g115, 0, none⟩ : Addr))), (3, .pointer (some (⟨g135, 0, none⟩ : Addr))), (4, .int .i64 v151), (5, .pointer (some ad162)), (43, .string ((((ix eSapi_Sym.d a1.Syms v151) : Sapi_Sym).Name).extract ((0 : Int) : Int).toNat ((mnn ((((ix eSapi_Sym.d a1.Syms v151) : Sapi_Sym).Name).size : Int) 20) : Int).toNat)), (44, .pointer (some ((ad162 : Addr).add 0)))]) (by kernel_rfl) ?_ rfl
   clear hs; intro a hs
   obtain ⟨wd170, hx171, hw⟩ := x_put (P := Tryd.prog) (ty := 0) (t := 9) (x := (Operand.tmp 44)) (y := (Operand.tmp 43)) (off := 0) (p := (ad162 : Addr).add 0) (v := .string ((((ix eSapi_Sym.d a1.Syms v151) : Sapi_Sym).Name).extract ((0 : Int) : Int).toNat ((mnn ((((ix eSapi_Sym.d a1.Syms v151) : Sapi_Sym).Name).size : Int) 20) : Int).toNat)) (vs := [.string ((((ix eSapi_Sym.d a1.Syms v151) : Sapi_Sym).Name).extract ((0 : Int) : Int).toNat ((mnn ((((ix eSapi_Sym.d a1.Syms v151) : Sapi_Sym).Name).size : Int) 20) : Int).toNat)]) (i := 0) (e' := (({ ((ix eSapi_Sym.d a1.Syms v151) : Sapi_Sym) with Name := (((ix eSapi_Sym.d a1.Syms v151) : Sapi_Sym).Name).extract ((0 : Int) : Int).toNat ((mnn ((((ix eSapi_Sym.d a1.Syms v151) : Sapi_Sym).Name).size : Int) 20) : Int).toNat } : Sapi_Sym) : Sapi_Sym)) hs hw rfl (one_ok ((ix eSapi_Sym.d a1.Syms v151) : Sapi_Sym)).1 (one_ok ((ix eSapi_Sym.d a1.Syms v151) : Sapi_Sym)).2 (by kernel_rfl) (one_off _ _ _) (by kernel_rfl) rfl (by kernel_rfl) (Nat.le_of_ble_eq_true rfl) (by simp [Value.oneCell']) (by kernel_rfl)
   refine go_unit hs (op := (Op.store 9 (Operand.tmp 44) (Operand.tmp 43))) (ty := 0) (dst := none) (g := none) (by kernel_rfl) (by kernel_rfl) (by kernel_rfl) hx171 [1, 2, 3, 4, 5] (L' := [(1, .pointer (some (⟨g111, 0, none⟩ : Addr))), (2, .pointer (some (⟨g115, 0, none⟩ : Addr))), (3, .pointer (some (⟨g135, 0, none⟩ : Addr))), (4, .int .i64 v151), (5, .pointer (some ad162))]) (by kernel_rfl) ?_
   clear hs; intro a hs
   replace hw : St [] w0 wd170 [own 39 eSapi_Sym (some ad162) 1 [({ ((ix eSapi_Sym.d a1.Syms v151) : Sapi_Sym) with Name := (((ix eSapi_Sym.d a1.Syms v151) : Sapi_Sym).Name).extract ((0 : Int) : Int).toNat ((mnn ((((ix eSapi_Sym.d a1.Syms v151) : Sapi_Sym).Name).size : Int) 20) : Int).toNat } : Sapi_Sym)], own 39 eSapi_Sym Aa149 cc150 l148, box g135 26 [.slice Aa124 (a1.Words.take (mnn (a1.Words.length : Int) 30 : Int).toNat).length cc125, .slice Aa130 (a1.Sites.take (mnn (a1.Sites.length : Int) 30 : Int).toNat).length cc131, .slice Aa149 l148.length cc150], own 39 eSapi_Sym none 0 ([] : List Sapi_Sym), own 3 (eI .i64) none 0 ([] : List Int), own 37 (eI .u32) none 0 ([] : List Int), own 39 eSapi_Sym none 0 ([] : List Sapi_Sym), own 3 (eI .i64) none 0 ([] : List Int), own 37 (eI .u32) none 0 ([] : List Int), box g115 26 [.slice none ([] : List Int).length 0, .slice none ([] : List Int).length 0, .slice none ([] : List Sapi_Sym).length 0], box g111 26 [.slice A1_1 a1.Words.length c1_1, .slice A1_2 a1.Sites.length c1_2, .slice (some ad161) a1.Syms.length c1_3], box g99 26 [.slice Aa32 (a0.Words.take (mnn (a0.Words.length : Int) 30 : Int).toNat).length cc33, .slice Aa38 (a0.Sites.take (mnn (a0.Sites.length : Int) 30 : Int).toNat).length cc39, .slice Aa94 l93.length cc95], own 39 eSapi_Sym none 0 ([] : List Sapi_Sym), own 3 (eI .i64) none 0 ([] : List Int), own 37 (eI .u32) none 0 ([] : List Int), box g23 26 [.slice Aa32 (a0.Words.take (mnn (a0.Words.length : Int) 30 : Int).toNat).length cc33, .slice Aa38 (a0.Sites.take (mnn (a0.Sites.length : Int) 30 : Int).toNat).length cc39, .slice Aa94 l93.length cc95], own 39 eSapi_Sym Aa94 cc95 l93, box g43 26 [.slice Aa32 (a0.Words.take (mnn (a0.Words.length : Int) 30 : Int).toNat).length cc33, .slice Aa38 (a0.Sites.take (mnn (a0.Sites.length : Int) 30 : Int).toNat).length cc39, .slice Aa94 l93.length cc95], own 39 eSapi_Sym none 0 ([] : List Sapi_Sym), own 3 (eI .i64) none 0 ([] : List Int), own 37 (eI .u32) none 0 ([] : List Int), own 39 eSapi_Sym none 0 ([] : List Sapi_Sym), own 3 (eI .i64) none 0 ([] : List Int), own 37 (eI .u32) none 0 ([] : List Int), box g19 26 [.slice A0_1 a0.Words.length c0_1, .slice A0_2 a0.Sites.length c0_2, .slice A0_3 a0.Syms.length c0_3], box g6 26 [.slice A1_1 a1.Words.length c1_1, .slice A1_2 a1.Sites.length c1_2, .slice (some ad161) a1.Syms.length c1_3], box g2 26 [.slice A0_1 a0.Words.length c0_1, .slice A0_2 a0.Sites.length c0_2, .slice A0_3 a0.Syms.length c0_3]] := hw
   refine go_end (by kernel_rfl) ?_
   refine hK168 _ _ ?_
   refine go_region ?_
   refine go_pvs 0 1 [1, 2, 3, 4, 5, 45] hs (L' := [(1, .pointer (some (⟨g111, 0, none⟩ : Addr))), (2, .pointer (some (⟨g115, 0, none⟩ : Addr))), (3, .pointer (some (⟨g135, 0, none⟩ : Addr))), (4, .int .i64 v151), (5, .pointer (some ad162)), (45, .pointer (some (((⟨g135, 0, none⟩ : Addr) : Addr).add 2)))]) (by kernel_rfl) ?_ rfl
   clear hs; intro a hs
   refine go_run hs (op := (Op.load 24 (Operand.tmp 45))) (ty := 24) (dst := some 46) (g := none) (by kernel_rfl) (by kernel_rfl) (by kernel_rfl) (x_bld (g := g135) (o := 2) (p := ((⟨g135, 0, none⟩ : Addr) : Addr).add 2) (v := .slice Aa149 l148.length cc150) (hw.up 2) (by kernel_rfl) rfl (by kernel_rfl) (by kernel_rfl)) [1, 2, 3, 4, 5, 46] (L' := [(1, .pointer (some (⟨g111, 0, none⟩ : Addr))), (2, .pointer (some (⟨g115, 0, none⟩ : Addr))), (3, .pointer (some (⟨g135, 0, none⟩ : Addr))), (4, .int .i64 v151), (5, .pointer (some ad162)), (46, .slice Aa149 l148.length cc150)]) (by kernel_rfl) ?_
   clear hs; intro a hs
   refine go_run hs (op := (Op.load 39 (Operand.tmp 5))) (ty := 39) (dst := some 47) (g := none) (by kernel_rfl) (by kernel_rfl) (by kernel_rfl) (x_lds (E := eSapi_Sym) (off := 0) (p := ad162) (cs := [.string ((((ix eSapi_Sym.d a1.Syms v151) : Sapi_Sym).Name).extract ((0 : Int) : Int).toNat ((mnn ((((ix eSapi_Sym.d a1.Syms v151) : Sapi_Sym).Name).size : Int) 20) : Int).toNat), .int .i64 (((ix eSapi_Sym.d a1.Syms v151) : Sapi_Sym).At)]) (Rd.of_own (hw.up 0)) (one_ok ({ ((ix eSapi_Sym.d a1.Syms v151) : Sapi_Sym) with Name := (((ix eSapi_Sym.d a1.Syms v151) : Sapi_Sym).Name).extract ((0 : Int) : Int).toNat ((mnn ((((ix eSapi_Sym.d a1.Syms v151) : Sapi_Sym).Name).size : Int) 20) : Int).toNat } : Sapi_Sym)).1 (one_ok ({ ((ix eSapi_Sym.d a1.Syms v151) : Sapi_Sym) with Name := (((ix eSapi_Sym.d a1.Syms v151) : Sapi_Sym).Name).extract ((0 : Int) : Int).toNat ((mnn ((((ix eSapi_Sym.d a1.Syms v151) : Sapi_Sym).Name).size : Int) 20) : Int).toNat } : Sapi_Sym)).2 (by kernel_rfl) (one_at _ _) (by kernel_rfl) (by kernel_rfl) (by kernel_rfl)) [1, 2, 3, 4, 46, 47] (L' := [(1, .pointer (some (⟨g111, 0, none⟩ : Addr))), (2, .pointer (some (⟨g115, 0, none⟩ : Addr))), (3, .pointer (some (⟨g135, 0, none⟩ : Addr))), (4, .int .i64 v151), (46, .slice Aa149 l148.length cc150), (47, .agg #[.string ((((ix eSapi_Sym.d a1.Syms v151) : Sapi_Sym).Name).extract ((0 : Int) : Int).toNat ((mnn ((((ix eSapi_Sym.d a1.Syms v151) : Sapi_Sym).Name).size : Int) 20) : Int).toNat), .int .i64 (((ix eSapi_Sym.d a1.Syms v151) : Sapi_Sym).At)])]) (by kernel_rfl) ?_
   clear hs; intro a hs
   obtain ⟨Aa172, cc173, wd174, hx175, hw⟩ := n_lit (P := Tryd.prog) (t := 24) (ty := 24) (T := 39) (len := 1) (parts := #[(0, (Operand.tmp 47))]) (z := .agg #[.string (⟨#[]⟩ : ByteArray), .int .i64 0]) (bytes := 24) (cells := #[.string ((((ix eSapi_Sym.d a1.Syms v151) : Sapi_Sym).Name).extract ((0 : Int) : Int).toNat ((mnn ((((ix eSapi_Sym.d a1.Syms v151) : Sapi_Sym).Name).size : Int) 20) : Int).toNat), .int .i64 (((ix eSapi_Sym.d a1.Syms v151) : Sapi_Sym).At)]) hs hw eSapi_Sym ([({ ((ix eSapi_Sym.d a1.Syms v151) : Sapi_Sym) with Name := (((ix eSapi_Sym.d a1.Syms v151) : Sapi_Sym).Name).extract ((0 : Int) : Int).toNat ((mnn ((((ix eSapi_Sym.d a1.Syms v151) : Sapi_Sym).Name).size : Int) 20) : Int).toNat } : Sapi_Sym)] : List Sapi_Sym) (by kernel_rfl) (by kernel_rfl) (by kernel_rfl) (by kernel_rfl) (by kernel_rfl) (by kernel_rfl) (by kernel_rfl)
   refine go_run hs (op := (Op.buildSlice 24 1 #[(0, (Operand.tmp 47))])) (ty := 24) (dst := some 48) (g := none) (by kernel_rfl) (by kernel_rfl) (by kernel_rfl) hx175 [1, 2, 3, 4, 46, 48] (L' := [(1, .pointer (some (⟨g111, 0, none⟩ : Addr))), (2, .pointer (some (⟨g115, 0, none⟩ : Addr))), (3, .pointer (some (⟨g135, 0, none⟩ : Addr))), (4, .int .i64 v151), (46, .slice Aa149 l148.length cc150), (48, .slice Aa172 ([({ ((ix eSapi_Sym.d a1.Syms v151) : Sapi_Sym) with Name := (((ix eSapi_Sym.d a1.Syms v151) : Sapi_Sym).Name).extract ((0 : Int) : Int).toNat ((mnn ((((ix eSapi_Sym.d a1.Syms v151) : Sapi_Sym).Name).size : Int) 20) : Int).toNat } : Sapi_Sym)] : List Sapi_Sym).length cc173)]) (by kernel_rfl) ?_
   clear hs; intro a hs
   obtain ⟨hp177, H⟩ := ite_only H
   have hsrc182 : Src Tryd.prog eSapi_Sym.sz 24 (.slice Aa172 ([({ ((ix eSapi_Sym.d a1.Syms v151) : Sapi_Sym) with Name := (((ix eSapi_Sym.d a1.Syms v151) : Sapi_Sym).Name).extract ((0 : Int) : Int).toNat ((mnn ((((ix eSapi_Sym.d a1.Syms v151) : Sapi_Sym).Name).size : Int) 20) : Int).toNat } : Sapi_Sym)] : List Sapi_Sym).length cc173) ([({ ((ix eSapi_Sym.d a1.Syms v151) : Sapi_Sym) with Name := (((ix eSapi_Sym.d a1.Syms v151) : Sapi_Sym).Name).extract ((0 : Int) : Int).toNat ((mnn ((((ix eSapi_Sym.d a1.Syms v151) : Sapi_Sym).Name).size : Int) 20) : Int).toNat } : Sapi_Sym)] : List Sapi_Sym).length (([({ ((ix eSapi_Sym.d a1.Syms v151) : Sapi_Sym) with Name := (((ix eSapi_Sym.d a1.Syms v151) : Sapi_Sym).Name).extract ((0 : Int) : Int).toNat ((mnn ((((ix eSapi_Sym.d a1.Syms v151) : Sapi_Sym).Name).size : Int) 20) : Int).toNat } : Sapi_Sym)] : List Sapi_Sym).flatMap eSapi_Sym.enc) _ := (Src.of_rd (E := eSapi_Sym) (e' := 39) (by kernel_rfl) (Rd.of_own (hw.up 0)))
   replace hw := hw.up 2
   obtain ⟨Aa178, cc179, wd180, hx181, hw⟩ := x_append (P := Tryd.prog) (t := 24) (tx := 24) (ty := 24) (x := (Operand.tmp 46)) (y := (Operand.tmp 48)) (z := .agg #[.string (⟨#[]⟩ : ByteArray), .int .i64 0]) (bytes := 24) (l2 := ([({ ((ix eSapi_Sym.d a1.Syms v151) : Sapi_Sym) with Name := (((ix eSapi_Sym.d a1.Syms v151) : Sapi_Sym).Name).extract ((0 : Int) : Int).toNat ((mnn ((((ix eSapi_Sym.d a1.Syms v151) : Sapi_Sym).Name).size : Int) 20) : Int).toNat } : Sapi_Sym)] : List Sapi_Sym)) hs hw (by kernel_rfl) (by kernel_rfl) (by kernel_rfl) (by kernel_rfl) (by kernel_rfl) hsrc182 (by omega) (by omega)
   refine go_run hs (op := (Op.call { callee := (Callee.builtin Builtin.append), args := #[(Operand.tmp 46), (Operand.tmp 48)], argTypes := #[24, 24] })) (ty := 24) (dst := some 49) (g := none) (by kernel_rfl) (by kernel_rfl) (by kernel_rfl) hx181 [1, 2, 3, 4, 49] (L' := [(1, .pointer (some (⟨g111, 0, none⟩ : Addr))), (2, .pointer (some (⟨g115, 0, none⟩ : Addr))), (3, .pointer (some (⟨g135, 0, none⟩ : Addr))), (4, .int .i64 v151), (49, .slice Aa178 (l148 ++ ([({ ((ix eSapi_Sym.d a1.Syms v151) : Sapi_Sym) with Name := (((ix eSapi_Sym.d a1.Syms v151) : Sapi_Sym).Name).extract ((0 : Int) : Int).toNat ((mnn ((((ix eSapi_Sym.d a1.Syms v151) : Sapi_Sym).Name).size : Int) 20) : Int).toNat } : Sapi_Sym)] : List Sapi_Sym)).length cc179)]) (by kernel_rfl) ?_
   clear hs; intro a hs
   refine go_pvs 5 6 [1, 2, 3, 4, 49, 50] hs (L' := [(1, .pointer (some (⟨g111, 0, none⟩ : Addr))), (2, .pointer (some (⟨g115, 0, none⟩ : Addr))), (3, .pointer (some (⟨g135, 0, none⟩ : Addr))), (4, .int .i64 v151), (49, .slice Aa178 (l148 ++ ([({ ((ix eSapi_Sym.d a1.Syms v151) : Sapi_Sym) with Name := (((ix eSapi_Sym.d a1.Syms v151) : Sapi_Sym).Name).extract ((0 : Int) : Int).toNat ((mnn ((((ix eSapi_Sym.d a1.Syms v151) : Sapi_Sym).Name).size : Int) 20) : Int).toNat } : Sapi_Sym)] : List Sapi_Sym)).length cc179), (50, .pointer (some (((⟨g135, 0, none⟩ : Addr) : Addr).add 2)))]) (by kernel_rfl) ?_ rfl
   clear hs; intro a hs
   replace hw := hw.up 3
   obtain ⟨wd183, hx184, hw⟩ := x_bput (P := Tryd.prog) (ty := 0) (t := 24) (y := (Operand.tmp 50)) (z := (Operand.tmp 49)) (o := 2) (p := ((⟨g135, 0, none⟩ : Addr) : Addr).add 2) (v := .slice Aa178 (l148 ++ ([({ ((ix eSapi_Sym.d a1.Syms v151) : Sapi_Sym) with Name := (((ix eSapi_Sym.d a1.Syms v151) : Sapi_Sym).Name).extract ((0 : Int) : Int).toNat ((mnn ((((ix eSapi_Sym.d a1.Syms v151) : Sapi_Sym).Name).size : Int) 20) : Int).toNat } : Sapi_Sym)] : List Sapi_Sym)).length cc179) (vs := [.slice Aa178 (l148 ++ ([({ ((ix eSapi_Sym.d a1.Syms v151) : Sapi_Sym) with Name := (((ix eSapi_Sym.d a1.Syms v151) : Sapi_Sym).Name).extract ((0 : Int) : Int).toNat ((mnn ((((ix eSapi_Sym.d a1.Syms v151) : Sapi_Sym).Name).size : Int) 20) : Int).toNat } : Sapi_Sym)] : List Sapi_Sym)).length cc179]) (cs' := [.slice Aa124 (a1.Words.take (mnn (a1.Words.length : Int) 30 : Int).toNat).length cc125, .slice Aa130 (a1.Sites.take (mnn (a1.Sites.length : Int) 30 : Int).toNat).length cc131, .slice Aa178 (l148 ++ ([({ ((ix eSapi_Sym.d a1.Syms v151) : Sapi_Sym) with Name := (((ix eSapi_Sym.d a1.Syms v151) : Sapi_Sym).Name).extract ((0 : Int) : Int).toNat ((mnn ((((ix eSapi_Sym.d a1.Syms v151) : Sapi_Sym).Name).size : Int) 20) : Int).toNat } : Sapi_Sym)] : List Sapi_Sym)).length cc179]) hs hw (by kernel_rfl) rfl (by kernel_rfl) rfl (by kernel_rfl) (by kernel_rfl) (by simp [Value.oneCell']) rfl
   refine go_unit hs (op := (Op.store 24 (Operand.tmp 50) (Operand.tmp 49))) (ty := 0) (dst := none) (g := none) (by kernel_rfl) (by kernel_rfl) (by kernel_rfl) hx184 [1, 2, 3, 4] (L' := [(1, .pointer (some (⟨g111, 0, none⟩ : Addr))), (2, .pointer (some (⟨g115, 0, none⟩ : Addr))), (3, .pointer (some (⟨g135, 0, none⟩ : Addr))), (4, .int .i64 v151)]) (by kernel_rfl) ?_
   clear hs; intro a hs
   refine go_end (by kernel_rfl) ?_
   refine ib_norm ?_
   refine hK158 _ _ ?_
   refine go_region ?_
   refine go_pvs 0 3 [1, 2, 3, 4] hs (L' := [(1, .pointer (some (⟨g111, 0, none⟩ : Addr))), (2, .pointer (some (⟨g115, 0, none⟩ : Addr))), (3, .pointer (some (⟨g135, 0, none⟩ : Addr))), (4, .int .i64 (w64 (v151 + 1)))]) (by kernel_rfl) ?_ rfl
   clear hs; intro a hs
   refine go_end (by kernel_rfl) ?_
   replace hw := hw.up 27
   replace hw := hw.up 27
   replace hw := hw.up 27
   replace hw := hw.up 27
   replace hw := hw.up 27
   replace hw := hw.up 27
   replace hw := hw.up 27
   replace hw := hw.up 27
   replace hw := hw.up 27
   replace hw := hw.up 27
   replace hw := hw.up 27
   replace hw := hw.up 27
   replace hw := hw.up 27
   replace hw := hw.up 27
   replace hw := hw.up 27
   replace hw := hw.up 27
   replace hw := hw.up 27
   replace hw := hw.up 27
   replace hw := hw.up 27
   replace hw := hw.up 27
   replace hw := hw.up 27
   replace hw := hw.up 27
   replace hw := hw.up 27
   replace hw := hw.up 27
   replace hw := hw.up 24
   replace hw := hw.up 25
   replace hw := hw.only 26
   exact round_end (l148 ++ ([({ ((ix eSapi_Sym.d a1.Syms v151) : Sapi_Sym) with Name := (((ix eSapi_Sym.d a1.Syms v151) : Sapi_Sym).Name).extract ((0 : Int) : Int).toNat ((mnn ((((ix eSapi_Sym.d a1.Syms v151) : Sapi_Sym).Name).size : Int) 20) : Int).toNat } : Sapi_Sym)] : List Sapi_Sym), w64 (v151 + 1)) (Option.some.inj H).symm ⟨Aa178, cc179, hs.keep [1, 2, 3, 4] (by kernel_rfl), hw⟩
  refine go_seq_k fun K153 hK153 => ?_
  have hJ4 : ∀ (v155 : Bool) (a : Act) (w : World), Slots a 52 [(1, .pointer (some (⟨g111, 0, none⟩ : Addr))), (2, .pointer (some (⟨g115, 0, none⟩ : Addr))), (3, .pointer (some (⟨g135, 0, none⟩ : Addr))), (4, .int .i64 v151), (29, .bool v155)] → St [] w0 w [own 39 eSapi_Sym Aa149 cc150 l148, box g135 26 [.slice Aa124 (a1.Words.take (mnn (a1.Words.length : Int) 30 : Int).toNat).length cc125, .slice Aa130 (a1.Sites.take (mnn (a1.Sites.length : Int) 30 : Int).toNat).length cc131, .slice Aa149 l148.length cc150], own 39 eSapi_Sym none 0 ([] : List Sapi_Sym), own 3 (eI .i64) none 0 ([] : List Int), own 37 (eI .u32) none 0 ([] : List Int), own 39 eSapi_Sym none 0 ([] : List Sapi_Sym), own 3 (eI .i64) none 0 ([] : List Int), own 37 (eI .u32) none 0 ([] : List Int), box g115 26 [.slice none ([] : List Int).length 0, .slice none ([] : List Int).length 0, .slice none ([] : List Sapi_Sym).length 0], box g111 26 [.slice A1_1 a1.Words.length c1_1, .slice A1_2 a1.Sites.length c1_2, .slice A1_3 a1.Syms.length c1_3], box g99 26 [.slice Aa32 (a0.Words.take (mnn (a0.Words.length : Int) 30 : Int).toNat).length cc33, .slice Aa38 (a0.Sites.take (mnn (a0.Sites.length : Int) 30 : Int).toNat).length cc39, .slice Aa94 l93.length cc95], own 39 eSapi_Sym none 0 ([] : List Sapi_Sym), own 3 (eI .i64) none 0 ([] : List Int), own 37 (eI .u32) none 0 ([] : List Int), box g23 26 [.slice Aa32 (a0.Words.take (mnn (a0.Words.length : Int) 30 : Int).toNat).length cc33, .slice Aa38 (a0.Sites.take (mnn (a0.Sites.length : Int) 30 : Int).toNat).length cc39, .slice Aa94 l93.length cc95], own 39 eSapi_Sym Aa94 cc95 l93, box g43 26 [.slice Aa32 (a0.Words.take (mnn (a0.Words.length : Int) 30 : Int).toNat).length cc33, .slice Aa38 (a0.Sites.take (mnn (a0.Sites.length : Int) 30 : Int).toNat).length cc39, .slice Aa94 l93.length cc95], own 39 eSapi_Sym none 0 ([] : List Sapi_Sym), own 3 (eI .i64) none 0 ([] : List Int), own 37 (eI .u32) none 0 ([] : List Int), own 39 eSapi_Sym none 0 ([] : List Sapi_Sym), own 3 (eI .i64) none 0 ([] : List Int), own 37 (eI .u32) none 0 ([] : List Int), box g19 26 [.slice A0_1 a0.Words.length c0_1, .slice A0_2 a0.Sites.length c0_2, .slice A0_3 a0.Syms.length c0_3], box g6 26 [.slice A1_1 a1.Words.length c1_1, .slice A1_2 a1.Sites.length c1_2, .slice A1_3 a1.Syms.length c1_3], box g2 26 [.slice A0_1 a0.Words.length c0_1, .slice A0_2 a0.Sites.length c0_2, .slice A0_3 a0.Syms.length c0_3]] → rivetlaw09_ObjectAll.j4 v151 a1 l148 v155 = some o → K153 a w := by
   intro v155 a w hs hw H
   unfold rivetlaw09_ObjectAll.j4 at H
   refine hK153 _ _ ?_
   refine go_cond hs v155 (by kernel_rfl) (fun hc => ?_) (fun hc => ?_)
   ·replace H := ite_t H hc
    have hb156 := hc
    rw [hb156] at hs
    refine wp_skip ?_
    replace hw := hw.up 25
    replace hw := hw.up 25
    replace hw := hw.up 25
    replace hw := hw.up 25
    replace hw := hw.up 25
    replace hw := hw.up 25
    replace hw := hw.up 25
    replace hw := hw.up 25
    replace hw := hw.up 25
    replace hw := hw.up 25
    replace hw := hw.up 25
    replace hw := hw.up 25
    replace hw := hw.up 25
    replace hw := hw.up 25
    replace hw := hw.up 25
    replace hw := hw.up 25
    replace hw := hw.up 25
    replace hw := hw.up 25
    replace hw := hw.up 25
    replace hw := hw.up 25
    replace hw := hw.up 25
    replace hw := hw.up 25
    replace hw := hw.up 25
    replace hw := hw.up 25
    replace hw := hw.up 25
    replace hw := hw.up 25
    replace hw := hw.only 26
    exact hJ5 _ _ (hs.keep [1, 2, 3, 4] (by kernel_rfl)) hw H
   ·replace H := ite_f H (ff hc)
    have hb157 := hc
    rw [hb157] at hs
    refine wp_exit ?_
    refine th_exit ?_
    refine th_exit ?_
    refine in_block ?_
    replace hw := hw.up 25
    replace hw := hw.up 25
    replace hw := hw.up 25
    replace hw := hw.up 25
    replace hw := hw.up 25
    replace hw := hw.up 25
    replace hw := hw.up 25
    replace hw := hw.up 25
    replace hw := hw.up 25
    replace hw := hw.up 25
    replace hw := hw.up 25
    replace hw := hw.up 25
    replace hw := hw.up 25
    replace hw := hw.up 25
    replace hw := hw.up 25
    replace hw := hw.up 25
    replace hw := hw.up 25
    replace hw := hw.up 25
    replace hw := hw.up 25
    replace hw := hw.up 25
    replace hw := hw.up 25
    replace hw := hw.up 25
    replace hw := hw.up 25
    replace hw := hw.up 25
    replace hw := hw.up 25
    replace hw := hw.up 25
    replace hw := hw.only 26
    rw [← hr147 _ (Option.some.inj H).symm] at HX147
    exact hJ6 Aa149 cc150 l148 _ _ (hs.keep [2, 3] (by kernel_rfl)) hw HX147
  refine go_region ?_
  refine go_pvs 0 2 [1, 2, 3, 4, 21, 22] hs (L' := [(1, .pointer (some (⟨g111, 0, none⟩ : Addr))), (2, .pointer (some (⟨g115, 0, none⟩ : Addr))), (3, .pointer (some (⟨g135, 0, none⟩ : Addr))), (4, .int .i64 v151), (21, .int .i64 v151), (22, .pointer (some (((⟨g111, 0, none⟩ : Addr) : Addr).add 2)))]) (by kernel_rfl) ?_ rfl
  clear hs; intro a hs
  refine go_run hs (op := (Op.load 24 (Operand.tmp 22))) (ty := 24) (dst := some 23) (g := none) (by kernel_rfl) (by kernel_rfl) (by kernel_rfl) (x_bld (g := g111) (o := 2) (p := ((⟨g111, 0, none⟩ : Addr) : Addr).add 2) (v := .slice A1_3 a1.Syms.length c1_3) (hw.up 9) (by kernel_rfl) rfl (by kernel_rfl) (by kernel_rfl)) [1, 2, 3, 4, 21, 23] (L' := [(1, .pointer (some (⟨g111, 0, none⟩ : Addr))), (2, .pointer (some (⟨g115, 0, none⟩ : Addr))), (3, .pointer (some (⟨g135, 0, none⟩ : Addr))), (4, .int .i64 v151), (21, .int .i64 v151), (23, .slice A1_3 a1.Syms.length c1_3)]) (by kernel_rfl) ?_
  clear hs; intro a hs
  refine go_pvs 3 6 [1, 2, 3, 4, 26] hs (L' := [(1, .pointer (some (⟨g111, 0, none⟩ : Addr))), (2, .pointer (some (⟨g115, 0, none⟩ : Addr))), (3, .pointer (some (⟨g135, 0, none⟩ : Addr))), (4, .int .i64 v151), (26, .bool (decide (v151 < (a1.Syms.length : Int))))]) (by kernel_rfl) ?_ rfl
  clear hs; intro a hs
  cases hb154 : (decide (v151 < (a1.Syms.length : Int)))
  ·replace H := ite_f H (of_decide_eq_false hb154)
   rw [hb154] at hs
   refine go_pvs 6 9 [1, 2, 3, 4, 29] hs (L' := [(1, .pointer (some (⟨g111, 0, none⟩ : Addr))), (2, .pointer (some (⟨g115, 0, none⟩ : Addr))), (3, .pointer (some (⟨g135, 0, none⟩ : Addr))), (4, .int .i64 v151), (29, .bool false)]) (by kernel_rfl) ?_ rfl
   clear hs; intro a hs
   refine go_end (by kernel_rfl) ?_
   replace hw := hw.up 25
   replace hw := hw.up 25
   replace hw := hw.up 25
   replace hw := hw.up 25
   replace hw := hw.up 25
   replace hw := hw.up 25
   replace hw := hw.up 25
   replace hw := hw.up 25
   replace hw := hw.up 25
   replace hw := hw.up 25
   replace hw := hw.up 25
   replace hw := hw.up 25
   replace hw := hw.up 25
   replace hw := hw.up 25
   replace hw := hw.up 25
   replace hw := hw.up 25
   replace hw := hw.up 25
   replace hw := hw.up 25
   replace hw := hw.up 25
   replace hw := hw.up 25
   replace hw := hw.up 25
   replace hw := hw.up 25
   replace hw := hw.up 25
   replace hw := hw.up 25
   replace hw := hw.up 25
   replace hw := hw.up 25
   replace hw := hw.only 26
   exact hJ4 false _ _ (hs.keep [1, 2, 3, 4, 29] (by kernel_rfl)) hw H
  ·replace H := ite_t H (of_decide_eq_true hb154)
   rw [hb154] at hs
   refine go_pvs 6 9 [1, 2, 3, 4, 29] hs (L' := [(1, .pointer (some (⟨g111, 0, none⟩ : Addr))), (2, .pointer (some (⟨g115, 0, none⟩ : Addr))), (3, .pointer (some (⟨g135, 0, none⟩ : Addr))), (4, .int .i64 v151), (29, .bool (decide (v151 < 12)))]) (by kernel_rfl) ?_ rfl
   clear hs; intro a hs
   refine go_end (by kernel_rfl) ?_
   replace hw := hw.up 25
   replace hw := hw.up 25
   replace hw := hw.up 25
   replace hw := hw.up 25
   replace hw := hw.up 25
   replace hw := hw.up 25
   replace hw := hw.up 25
   replace hw := hw.up 25
   replace hw := hw.up 25
   replace hw := hw.up 25
   replace hw := hw.up 25
   replace hw := hw.up 25
   replace hw := hw.up 25
   replace hw := hw.up 25
   replace hw := hw.up 25
   replace hw := hw.up 25
   replace hw := hw.up 25
   replace hw := hw.up 25
   replace hw := hw.up 25
   replace hw := hw.up 25
   replace hw := hw.up 25
   replace hw := hw.up 25
   replace hw := hw.up 25
   replace hw := hw.up 25
   replace hw := hw.up 25
   replace hw := hw.up 25
   replace hw := hw.only 26
   exact hJ4 (decide (v151 < 12)) _ _ (hs.keep [1, 2, 3, 4, 29] (by kernel_rfl)) hw H
 clear H
 refine go_loop (σ := (List Sapi_Sym) × Int) (fun σ a w => ∃ Aa57, ∃ cc58, Slots a 52 [(1, .pointer (some (⟨g19, 0, none⟩ : Addr))), (2, .pointer (some (⟨g23, 0, none⟩ : Addr))), (3, .pointer (some (⟨g43, 0, none⟩ : Addr))), (4, .int .i64 σ.2)] ∧ St [] w0 w [own 39 eSapi_Sym Aa57 cc58 σ.1, box g43 26 [.slice Aa32 (a0.Words.take (mnn (a0.Words.length : Int) 30 : Int).toNat).length cc33, .slice Aa38 (a0.Sites.take (mnn (a0.Sites.length : Int) 30 : Int).toNat).length cc39, .slice Aa57 σ.1.length cc58], own 39 eSapi_Sym none 0 ([] : List Sapi_Sym), own 3 (eI .i64) none 0 ([] : List Int), own 37 (eI .u32) none 0 ([] : List Int), own 39 eSapi_Sym none 0 ([] : List Sapi_Sym), own 3 (eI .i64) none 0 ([] : List Int), own 37 (eI .u32) none 0 ([] : List Int), box g23 26 [.slice none ([] : List Int).length 0, .slice none ([] : List Int).length 0, .slice none ([] : List Sapi_Sym).length 0], box g19 26 [.slice A0_1 a0.Words.length c0_1, .slice A0_2 a0.Sites.length c0_2, .slice A0_3 a0.Syms.length c0_3], box g6 26 [.slice A1_1 a1.Words.length c1_1, .slice A1_2 a1.Sites.length c1_2, .slice A1_3 a1.Syms.length c1_3], box g2 26 [.slice A0_1 a0.Words.length c0_1, .slice A0_2 a0.Sites.length c0_2, .slice A0_3 a0.Syms.length c0_3]]) hl55 (by exact ⟨none, 0, hs.keep [1, 2, 3, 4] (by kernel_rfl), hw⟩) ?_
 rintro ⟨l56, v59⟩ a w ⟨Aa57, cc58, hs, hw⟩ o H hr55
 replace hs : Slots a 52 [(1, .pointer (some (⟨g19, 0, none⟩ : Addr))), (2, .pointer (some (⟨g23, 0, none⟩ : Addr))), (3, .pointer (some (⟨g43, 0, none⟩ : Addr))), (4, .int .i64 v59)] := hs
 replace hw : St [] w0 w [own 39 eSapi_Sym Aa57 cc58 l56, box g43 26 [.slice Aa32 (a0.Words.take (mnn (a0.Words.length : Int) 30 : Int).toNat).length cc33, .slice Aa38 (a0.Sites.take (mnn (a0.Sites.length : Int) 30 : Int).toNat).length cc39, .slice Aa57 l56.length cc58], own 39 eSapi_Sym none 0 ([] : List Sapi_Sym), own 3 (eI .i64) none 0 ([] : List Int), own 37 (eI .u32) none 0 ([] : List Int), own 39 eSapi_Sym none 0 ([] : List Sapi_Sym), own 3 (eI .i64) none 0 ([] : List Int), own 37 (eI .u32) none 0 ([] : List Int), box g23 26 [.slice none ([] : List Int).length 0, .slice none ([] : List Int).length 0, .slice none ([] : List Sapi_Sym).length 0], box g19 26 [.slice A0_1 a0.Words.length c0_1, .slice A0_2 a0.Sites.length c0_2, .slice A0_3 a0.Syms.length c0_3], box g6 26 [.slice A1_1 a1.Words.length c1_1, .slice A1_2 a1.Sites.length c1_2, .slice A1_3 a1.Syms.length c1_3], box g2 26 [.slice A0_1 a0.Words.length c0_1, .slice A0_2 a0.Sites.length c0_2, .slice A0_3 a0.Syms.length c0_3]] := hw
 replace H : rivetlaw09_ObjectAll.b55 a0 l56 v59 = some o := H
 unfold rivetlaw09_ObjectAll.b55 at H
 refine go_seq_k fun K60 hK60 => ?_
 have hJ2 : ∀ (a : Act) (w : World), Slots a 52 [(1, .pointer (some (⟨g19, 0, none⟩ : Addr))), (2, .pointer (some (⟨g23, 0, none⟩ : Addr))), (3, .pointer (some (⟨g43, 0, none⟩ : Addr))), (4, .int .i64 v59)] → St [] w0 w [own 39 eSapi_Sym Aa57 cc58 l56, box g43 26 [.slice Aa32 (a0.Words.take (mnn (a0.Words.length : Int) 30 : Int).toNat).length cc33, .slice Aa38 (a0.Sites.take (mnn (a0.Sites.length : Int) 30 : Int).toNat).length cc39, .slice Aa57 l56.length cc58], own 39 eSapi_Sym none 0 ([] : List Sapi_Sym), own 3 (eI .i64) none 0 ([] : List Int), own 37 (eI .u32) none 0 ([] : List Int), own 39 eSapi_Sym none 0 ([] : List Sapi_Sym), own 3 (eI .i64) none 0 ([] : List Int), own 37 (eI .u32) none 0 ([] : List Int), box g23 26 [.slice none ([] : List Int).length 0, .slice none ([] : List Int).length 0, .slice none ([] : List Sapi_Sym).length 0], box g19 26 [.slice A0_1 a0.Words.length c0_1, .slice A0_2 a0.Sites.length c0_2, .slice A0_3 a0.Syms.length c0_3], box g6 26 [.slice A1_1 a1.Words.length c1_1, .slice A1_2 a1.Sites.length c1_2, .slice A1_3 a1.Syms.length c1_3], box g2 26 [.slice A0_1 a0.Words.length c0_1, .slice A0_2 a0.Sites.length c0_2, .slice A0_3 a0.Syms.length c0_3]] → rivetlaw09_ObjectAll.j2 v59 a0 l56 = some o → K60 a w := by
  intro a w hs hw H
  unfold rivetlaw09_ObjectAll.j2 at H
  refine hK60 _ _ ?_
  refine go_seq_k fun K66 hK66 => ?_
  refine wp_block ?_
  refine go_seq_k fun K67 hK67 => ?_
  refine go_region ?_
  refine go_pvs 0 1 [1, 2, 3, 4, 32] hs (L' := [(1, .pointer (some (⟨g19, 0, none⟩ : Addr))), (2, .pointer (some (⟨g23, 0, none⟩ : Addr))), (3, .pointer (some (⟨g43, 0, none⟩ : Addr))), (4, .int .i64 v59), (32, .pointer (some (((⟨g19, 0, none⟩ : Addr) : Addr).add 2)))]) (by kernel_rfl) ?_ rfl
  clear hs; intro a hs
  refine go_run hs (op := (Op.load 24 (Operand.tmp 32))) (ty := 24) (dst := some 33) (g := none) (by kernel_rfl) (by kernel_rfl) (by kernel_rfl) (x_bld (g := g19) (o := 2) (p := ((⟨g19, 0, none⟩ : Addr) : Addr).add 2) (v := .slice A0_3 a0.Syms.length c0_3) (hw.up 9) (by kernel_rfl) rfl (by kernel_rfl) (by kernel_rfl)) [1, 2, 3, 4, 33] (L' := [(1, .pointer (some (⟨g19, 0, none⟩ : Addr))), (2, .pointer (some (⟨g23, 0, none⟩ : Addr))), (3, .pointer (some (⟨g43, 0, none⟩ : Addr))), (4, .int .i64 v59), (33, .slice A0_3 a0.Syms.length c0_3)]) (by kernel_rfl) ?_
  clear hs; intro a hs
  refine go_pvs 2 3 [1, 2, 3, 4, 33, 34] hs (L' := [(1, .pointer (some (⟨g19, 0, none⟩ : Addr))), (2, .pointer (some (⟨g23, 0, none⟩ : Addr))), (3, .pointer (some (⟨g43, 0, none⟩ : Addr))), (4, .int .i64 v59), (33, .slice A0_3 a0.Syms.length c0_3), (34, .int .i64 v59)]) (by kernel_rfl) ?_ rfl
  clear hs; intro a hs
  obtain ⟨hp68, H⟩ := ite_only H
  obtain ⟨ad69, rfl⟩ := (hr0_3.old hw).some hp68.1 hp68.2
  refine go_run hs (op := (Op.indexAddr 24 (Operand.tmp 33) (Operand.tmp 34))) (ty := 0) (dst := some 35) (g := none) (by kernel_rfl) (by kernel_rfl) (by kernel_rfl) (x_idx (T := 39) (sz := 2) (a := ad69) (n := a0.Syms.length) (cap := c0_3) (k := .i64) (i := v59) (by kernel_rfl) (by kernel_rfl) (by kernel_rfl) (by kernel_rfl) hp68.1 hp68.2) [1, 2, 3, 4, 35] (L' := [(1, .pointer (some (⟨g19, 0, none⟩ : Addr))), (2, .pointer (some (⟨g23, 0, none⟩ : Addr))), (3, .pointer (some (⟨g43, 0, none⟩ : Addr))), (4, .int .i64 v59), (35, .pointer (some (ad69.add (v59.toNat * 2))))]) (by kernel_rfl) ?_
  clear hs; intro a hs
  refine go_run hs (op := (Op.load 39 (Operand.tmp 35))) (ty := 39) (dst := some 36) (g := none) (by kernel_rfl) (by kernel_rfl) (by kernel_rfl) (x_lds (E := eSapi_Sym) (off := 0) (p := ad69.add (v59.toNat * 2)) (cs := [.string ((ix eSapi_Sym.d a0.Syms v59).Name), .int .i64 ((ix eSapi_Sym.d a0.Syms v59).At)]) (hr0_3.old hw) hp68.1 hp68.2 (by kernel_rfl) rfl (by kernel_rfl) (by kernel_rfl) (by kernel_rfl)) [1, 2, 3, 4, 36] (L' := [(1, .pointer (some (⟨g19, 0, none⟩ : Addr))), (2, .pointer (some (⟨g23, 0, none⟩ : Addr))), (3, .pointer (some (⟨g43, 0, none⟩ : Addr))), (4, .int .i64 v59), (36, .agg #[.string ((ix eSapi_Sym.d a0.Syms v59).Name), .int .i64 ((ix eSapi_Sym.d a0.Syms v59).At)])]) (by kernel_rfl) ?_
  clear hs; intro a hs
  obtain ⟨ad70, wd71, hx72, hw⟩ := x_alloc1 (P := Tryd.prog) (elem := 39) (ty := 0) (z := .agg #[.string (⟨#[]⟩ : ByteArray), .int .i64 0]) hs hw eSapi_Sym (⟨(⟨#[]⟩ : ByteArray), 0⟩ : Sapi_Sym) (by kernel_rfl) (by kernel_rfl)
  refine go_run hs (op := (Op.alloc 39)) (ty := 0) (dst := some 5) (g := none) (by kernel_rfl) (by kernel_rfl) (by kernel_rfl) hx72 [1, 2, 3, 4, 5, 36] (L' := [(1, .pointer (some (⟨g19, 0, none⟩ : Addr))), (2, .pointer (some (⟨g23, 0, none⟩ : Addr))), (3, .pointer (some (⟨g43, 0, none⟩ : Addr))), (4, .int .i64 v59), (5, .pointer (some ad70)), (36, .agg #[.string ((ix eSapi_Sym.d a0.Syms v59).Name), .int .i64 ((ix eSapi_Sym.d a0.Syms v59).At)])]) (by kernel_rfl) ?_
  clear hs; intro a hs
  obtain ⟨wd74, hx75, hw⟩ := x_put (P := Tryd.prog) (ty := 0) (t := 39) (x := (Operand.tmp 5)) (y := (Operand.tmp 36)) (off := 0) (p := ad70) (v := .agg #[.string ((ix eSapi_Sym.d a0.Syms v59).Name), .int .i64 ((ix eSapi_Sym.d a0.Syms v59).At)]) (vs := [.string ((ix eSapi_Sym.d a0.Syms v59).Name), .int .i64 ((ix eSapi_Sym.d a0.Syms v59).At)]) (i := 0) (e' := (((ix eSapi_Sym.d a0.Syms v59) : Sapi_Sym) : Sapi_Sym)) hs hw rfl (one_ok (⟨(⟨#[]⟩ : ByteArray), 0⟩ : Sapi_Sym)).1 (one_ok (⟨(⟨#[]⟩ : ByteArray), 0⟩ : Sapi_Sym)).2 (by kernel_rfl) (one_at _ _) (by kernel_rfl) rfl (by kernel_rfl) (Nat.le_of_ble_eq_true rfl) (by simp [Value.oneCell']) (by kernel_rfl)
  refine go_unit hs (op := (Op.store 39 (Operand.tmp 5) (Operand.tmp 36))) (ty := 0) (dst := none) (g := none) (by kernel_rfl) (by kernel_rfl) (by kernel_rfl) hx75 [1, 2, 3, 4, 5] (L' := [(1, .pointer (some (⟨g19, 0, none⟩ : Addr))), (2, .pointer (some (⟨g23, 0, none⟩ : Addr))), (3, .pointer (some (⟨g43, 0, none⟩ : Addr))), (4, .int .i64 v59), (5, .pointer (some ad70))]) (by kernel_rfl) ?_
  clear hs; intro a hs
  replace hw : St [] w0 wd74 [own 39 eSapi_Sym (some ad70) 1 [((ix eSapi_Sym.d a0.Syms v59) : Sapi_Sym)], own 39 eSapi_Sym Aa57 cc58 l56, box g43 26 [.slice Aa32 (a0.Words.take (mnn (a0.Words.length : Int) 30 : Int).toNat).length cc33, .slice Aa38 (a0.Sites.take (mnn (a0.Sites.length : Int) 30 : Int).toNat).length cc39, .slice Aa57 l56.length cc58], own 39 eSapi_Sym none 0 ([] : List Sapi_Sym), own 3 (eI .i64) none 0 ([] : List Int), own 37 (eI .u32) none 0 ([] : List Int), own 39 eSapi_Sym none 0 ([] : List Sapi_Sym), own 3 (eI .i64) none 0 ([] : List Int), own 37 (eI .u32) none 0 ([] : List Int), box g23 26 [.slice none ([] : List Int).length 0, .slice none ([] : List Int).length 0, .slice none ([] : List Sapi_Sym).length 0], box g19 26 [.slice A0_1 a0.Words.length c0_1, .slice A0_2 a0.Sites.length c0_2, .slice (some ad69) a0.Syms.length c0_3], box g6 26 [.slice A1_1 a1.Words.length c1_1, .slice A1_2 a1.Sites.length c1_2, .slice A1_3 a1.Syms.length c1_3], box g2 26 [.slice A0_1 a0.Words.length c0_1, .slice A0_2 a0.Sites.length c0_2, .slice (some ad69) a0.Syms.length c0_3]] := hw
  refine go_end (by kernel_rfl) ?_
  refine hK67 _ _ ?_
  refine go_seq_k fun K76 hK76 => ?_
  refine go_region ?_
  refine go_pvs 0 1 [1, 2, 3, 4, 5, 37] hs (L' := [(1, .pointer (some (⟨g19, 0, none⟩ : Addr))), (2, .pointer (some (⟨g23, 0, none⟩ : Addr))), (3, .pointer (some (⟨g43, 0, none⟩ : Addr))), (4, .int .i64 v59), (5, .pointer (some ad70)), (37, .pointer (some ((ad70 : Addr).add 0)))]) (by kernel_rfl) ?_ rfl
  clear hs; intro a hs
  refine go_run hs (op := (Op.load 9 (Operand.tmp 37))) (ty := 9) (dst := some 38) (g := none) (by kernel_rfl) (by kernel_rfl) (by kernel_rfl) (x_ld (E := eSapi_Sym) (off := 0) (p := (ad70 : Addr).add 0) (v := .string (((ix eSapi_Sym.d a0.Syms v59) : Sapi_Sym).Name)) (Rd.of_own (hw.up 0)) (one_ok ((ix eSapi_Sym.d a0.Syms v59) : Sapi_Sym)).1 (one_ok ((ix eSapi_Sym.d a0.Syms v59) : Sapi_Sym)).2 (by kernel_rfl) (one_off _ _ _) (by kernel_rfl) (by kernel_rfl)) [1, 2, 3, 4, 5, 38] (L' := [(1, .pointer (some (⟨g19, 0, none⟩ : Addr))), (2, .pointer (some (⟨g23, 0, none⟩ : Addr))), (3, .pointer (some (⟨g43, 0, none⟩ : Addr))), (4, .int .i64 v59), (5, .pointer (some ad70)), (38, .string (((ix eSapi_Sym.d a0.Syms v59) : Sapi_Sym).Name))]) (by kernel_rfl) ?_
  clear hs; intro a hs
  refine go_pvs 2 3 [1, 2, 3, 4, 5, 38, 39] hs (L' := [(1, .pointer (some (⟨g19, 0, none⟩ : Addr))), (2, .pointer (some (⟨g23, 0, none⟩ : Addr))), (3, .pointer (some (⟨g43, 0, none⟩ : Addr))), (4, .int .i64 v59), (5, .pointer (some ad70)), (38, .string (((ix eSapi_Sym.d a0.Syms v59) : Sapi_Sym).Name)), (39, .pointer (some ((ad70 : Addr).add 0)))]) (by kernel_rfl) ?_ rfl
  clear hs; intro a hs
  refine go_run hs (op := (Op.load 9 (Operand.tmp 39))) (ty := 9) (dst := some 40) (g := none) (by kernel_rfl) (by kernel_rfl) (by kernel_rfl) (x_ld (E := eSapi_Sym) (off := 0) (p := (ad70 : Addr).add 0) (v := .string (((ix eSapi_Sym.d a0.Syms v59) : Sapi_Sym).Name)) (Rd.of_own (hw.up 0)) (one_ok ((ix eSapi_Sym.d a0.Syms v59) : Sapi_Sym)).1 (one_ok ((ix eSapi_Sym.d a0.Syms v59) : Sapi_Sym)).2 (by kernel_rfl) (one_off _ _ _) (by kernel_rfl) (by kernel_rfl)) [1, 2, 3, 4, 5, 38, 40] (L' := [(1, .pointer (some (⟨g19, 0, none⟩ : Addr))), (2, .pointer (some (⟨g23, 0, none⟩ : Addr))), (3, .pointer (some (⟨g43, 0, none⟩ : Addr))), (4, .int .i64 v59), (5, .pointer (some ad70)), (38, .string (((ix eSapi_Sym.d a0.Syms v59) : Sapi_Sym).Name)), (40, .string (((ix eSapi_Sym.d a0.Syms v59) : Sapi_Sym).Name))]) (by kernel_rfl) ?_
  clear hs; intro a hs
  refine go_pvs 4 6 [1, 2, 3, 4, 5, 38, 42] hs (L' := [(1, .pointer (some (⟨g19, 0, none⟩ : Addr))), (2, .pointer (some (⟨g23, 0, none⟩ : Addr))), (3, .pointer (some (⟨g43, 0, none⟩ : Addr))), (4, .int .i64 v59), (5, .pointer (some ad70)), (38, .string (((ix eSapi_Sym.d a0.Syms v59) : Sapi_Sym).Name)), (42, .int .i64 (mnn ((((ix eSapi_Sym.d a0.Syms v59) : Sapi_Sym).Name).size : Int) 20))]) (by kernel_rfl) ?_ rfl
  clear hs; intro a hs
  obtain ⟨hp77, H⟩ := ite_only H
  refine go_run hs (op := (Op.slice 9 (Operand.tmp 38) none (some (Operand.tmp 42)) none)) (ty := 9) (dst := some 43) (g := none) (by kernel_rfl) (by kernel_rfl) (by kernel_rfl) (x_scut (s := ((ix eSapi_Sym.d a0.Syms v59) : Sapi_Sym).Name) (k := .i64) (k' := .i64) (l0 := (0 : Int)) (h := (mnn ((((ix eSapi_Sym.d a0.Syms v59) : Sapi_Sym).Name).size : Int) 20)) (by kernel_rfl) (by kernel_rfl) (Or.inr ⟨rfl, rfl⟩) (Or.inl (by kernel_rfl)) hp77.1 hp77.2.1 hp77.2.2) [1, 2, 3, 4, 5, 43] (L' := [(1, .pointer (some (⟨g19, 0, none⟩ : Addr))), (2, .pointer (some (⟨g23, 0, none⟩ : Addr))), (3, .pointer (some (⟨g43, 0, none⟩ : Addr))), (4, .int .i64 v59), (5, .pointer (some ad70)), (43, .string ((((ix eSapi_Sym.d a0.Syms v59) : Sapi_Sym).Name).extract ((0 : Int) : Int).toNat ((mnn ((((ix eSapi_Sym.d a0.Syms v59) : Sapi_Sym).Name).size : Int) 20) : Int).toNat))]) (by kernel_rfl) ?_
  clear hs; intro a hs
  refine go_pvs 7 8 [1, 2, 3, 4, 5, 43, 44] hs (L' := [(1, .pointer (some (⟨g19, 0, none⟩ : Addr))), (2, .pointer (some (⟨g23, 0, none⟩ : Addr))), (3, .pointer (some (⟨g43, 0, none⟩ : Addr))), (4, .int .i64 v59), (5, .pointer (some ad70)), (43, .string ((((ix eSapi_Sym.d a0.Syms v59) : Sapi_Sym).Name).extract ((0 : Int) : Int).toNat ((mnn ((((ix eSapi_Sym.d a0.Syms v59) : Sapi_Sym).Name).size : Int) 20) : Int).toNat)), (44, .pointer (some ((ad70 : Addr).add 0)))]) (by kernel_rfl) ?_ rfl
  clear hs; intro a hs
  obtain ⟨wd78, hx79, hw⟩ := x_put (P := Tryd.prog) (ty := 0) (t := 9) (x := (Operand.tmp 44)) (y := (Operand.tmp 43)) (off := 0) (p := (ad70 : Addr).add 0) (v := .string ((((ix eSapi_Sym.d a0.Syms v59) : Sapi_Sym).Name).extract ((0 : Int) : Int).toNat ((mnn ((((ix eSapi_Sym.d a0.Syms v59) : Sapi_Sym).Name).size : Int) 20) : Int).toNat)) (vs := [.string ((((ix eSapi_Sym.d a0.Syms v59) : Sapi_Sym).Name).extract ((0 : Int) : Int).toNat ((mnn ((((ix eSapi_Sym.d a0.Syms v59) : Sapi_Sym).Name).size : Int) 20) : Int).toNat)]) (i := 0) (e' := (({ ((ix eSapi_Sym.d a0.Syms v59) : Sapi_Sym) with Name := (((ix eSapi_Sym.d a0.Syms v59) : Sapi_Sym).Name).extract ((0 : Int) : Int).toNat ((mnn ((((ix eSapi_Sym.d a0.Syms v59) : Sapi_Sym).Name).size : Int) 20) : Int).toNat } : Sapi_Sym) : Sapi_Sym)) hs hw rfl (one_ok ((ix eSapi_Sym.d a0.Syms v59) : Sapi_Sym)).1 (one_ok ((ix eSapi_Sym.d a0.Syms v59) : Sapi_Sym)).2 (by kernel_rfl) (one_off _ _ _) (by kernel_rfl) rfl (by kernel_rfl) (Nat.le_of_ble_eq_true rfl) (by simp [Value.oneCell']) (by kernel_rfl)
  refine go_unit hs (op := (Op.store 9 (Operand.tmp 44) (Operand.tmp 43))) (ty := 0) (dst := none) (g := none) (by kernel_rfl) (by kernel_rfl) (by kernel_rfl) hx79 [1, 2, 3, 4, 5] (L' := [(1, .pointer (some (⟨g19, 0, none⟩ : Addr))), (2, .pointer (some (⟨g23, 0, none⟩ : Addr))), (3, .pointer (some (⟨g43, 0, none⟩ : Addr))), (4, .int .i64 v59), (5, .pointer (some ad70))]) (by kernel_rfl) ?_
  clear hs; intro a hs
  replace hw : St [] w0 wd78 [own 39 eSapi_Sym (some ad70) 1 [({ ((ix eSapi_Sym.d a0.Syms v59) : Sapi_Sym) with Name := (((ix eSapi_Sym.d a0.Syms v59) : Sapi_Sym).Name).extract ((0 : Int) : Int).toNat ((mnn ((((ix eSapi_Sym.d a0.Syms v59) : Sapi_Sym).Name).size : Int) 20) : Int).toNat } : Sapi_Sym)], own 39 eSapi_Sym Aa57 cc58 l56, box g43 26 [.slice Aa32 (a0.Words.take (mnn (a0.Words.length : Int) 30 : Int).toNat).length cc33, .slice Aa38 (a0.Sites.take (mnn (a0.Sites.length : Int) 30 : Int).toNat).length cc39, .slice Aa57 l56.length cc58], own 39 eSapi_Sym none 0 ([] : List Sapi_Sym), own 3 (eI .i64) none 0 ([] : List Int), own 37 (eI .u32) none 0 ([] : List Int), own 39 eSapi_Sym none 0 ([] : List Sapi_Sym), own 3 (eI .i64) none 0 ([] : List Int), own 37 (eI .u32) none 0 ([] : List Int), box g23 26 [.slice none ([] : List Int).length 0, .slice none ([] : List Int).length 0, .slice none ([] : List Sapi_Sym).length 0], box g19 26 [.slice A0_1 a0.Words.length c0_1, .slice A0_2 a0.Sites.length c0_2, .slice (some ad69) a0.Syms.length c0_3], box g6 26 [.slice A1_1 a1.Words.length c1_1, .slice A1_2 a1.Sites.length c1_2, .slice A1_3 a1.Syms.length c1_3], box g2 26 [.slice A0_1 a0.Words.length c0_1, .slice A0_2 a0.Sites.length c0_2, .slice (some ad69) a0.Syms.length c0_3]] := hw
  refine go_end (by kernel_rfl) ?_
  refine hK76 _ _ ?_
  refine go_region ?_
  refine go_pvs 0 1 [1, 2, 3, 4, 5, 45] hs (L' := [(1, .pointer (some (⟨g19, 0, none⟩ : Addr))), (2, .pointer (some (⟨g23, 0, none⟩ : Addr))), (3, .pointer (some (⟨g43, 0, none⟩ : Addr))), (4, .int .i64 v59), (5, .pointer (some ad70)), (45, .pointer (some (((⟨g43, 0, none⟩ : Addr) : Addr).add 2)))]) (by kernel_rfl) ?_ rfl
  clear hs; intro a hs
  refine go_run hs (op := (Op.load 24 (Operand.tmp 45))) (ty := 24) (dst := some 46) (g := none) (by kernel_rfl) (by kernel_rfl) (by kernel_rfl) (x_bld (g := g43) (o := 2) (p := ((⟨g43, 0, none⟩ : Addr) : Addr).add 2) (v := .slice Aa57 l56.length cc58) (hw.up 2) (by kernel_rfl) rfl (by kernel_rfl) (by kernel_rfl)) [1, 2, 3, 4, 5, 46] (L' := [(1, .pointer (some (⟨g19, 0, none⟩ : Addr))), (2, .pointer (some (⟨g23, 0, none⟩ : Addr))), (3, .pointer (some (⟨g43, 0, none⟩ : Addr))), (4, .int .i64 v59), (5, .pointer (some ad70)), (46, .slice Aa57 l56.length cc58)]) (by kernel_rfl) ?_
  clear hs; intro a hs
  refine go_run hs (op := (Op.load 39 (Operand.tmp 5))) (ty := 39) (dst := some 47) (g := none) (by kernel_rfl) (by kernel_rfl) (by kernel_rfl) (x_lds (E := eSapi_Sym) (off := 0) (p := ad70) (cs := [.string ((((ix eSapi_Sym.d a0.Syms v59) : Sapi_Sym).Name).extract ((0 : Int) : Int).toNat ((mnn ((((ix eSapi_Sym.d a0.Syms v59) : Sapi_Sym).Name).size : Int) 20) : Int).toNat), .int .i64 (((ix eSapi_Sym.d a0.Syms v59) : Sapi_Sym).At)]) (Rd.of_own (hw.up 0)) (one_ok ({ ((ix eSapi_Sym.d a0.Syms v59) : Sapi_Sym) with Name := (((ix eSapi_Sym.d a0.Syms v59) : Sapi_Sym).Name).extract ((0 : Int) : Int).toNat ((mnn ((((ix eSapi_Sym.d a0.Syms v59) : Sapi_Sym).Name).size : Int) 20) : Int).toNat } : Sapi_Sym)).1 (one_ok ({ ((ix eSapi_Sym.d a0.Syms v59) : Sapi_Sym) with Name := (((ix eSapi_Sym.d a0.Syms v59) : Sapi_Sym).Name).extract ((0 : Int) : Int).toNat ((mnn ((((ix eSapi_Sym.d a0.Syms v59) : Sapi_Sym).Name).size : Int) 20) : Int).toNat } : Sapi_Sym)).2 (by kernel_rfl) (one_at _ _) (by kernel_rfl) (by kernel_rfl) (by kernel_rfl)) [1, 2, 3, 4, 46, 47] (L' := [(1, .pointer (some (⟨g19, 0, none⟩ : Addr))), (2, .pointer (some (⟨g23, 0, none⟩ : Addr))), (3, .pointer (some (⟨g43, 0, none⟩ : Addr))), (4, .int .i64 v59), (46, .slice Aa57 l56.length cc58), (47, .agg #[.string ((((ix eSapi_Sym.d a0.Syms v59) : Sapi_Sym).Name).extract ((0 : Int) : Int).toNat ((mnn ((((ix eSapi_Sym.d a0.Syms v59) : Sapi_Sym).Name).size : Int) 20) : Int).toNat), .int .i64 (((ix eSapi_Sym.d a0.Syms v59) : Sapi_Sym).At)])]) (by kernel_rfl) ?_
  clear hs; intro a hs
  obtain ⟨Aa80, cc81, wd82, hx83, hw⟩ := n_lit (P := Tryd.prog) (t := 24) (ty := 24) (T := 39) (len := 1) (parts := #[(0, (Operand.tmp 47))]) (z := .agg #[.string (⟨#[]⟩ : ByteArray), .int .i64 0]) (bytes := 24) (cells := #[.string ((((ix eSapi_Sym.d a0.Syms v59) : Sapi_Sym).Name).extract ((0 : Int) : Int).toNat ((mnn ((((ix eSapi_Sym.d a0.Syms v59) : Sapi_Sym).Name).size : Int) 20) : Int).toNat), .int .i64 (((ix eSapi_Sym.d a0.Syms v59) : Sapi_Sym).At)]) hs hw eSapi_Sym ([({ ((ix eSapi_Sym.d a0.Syms v59) : Sapi_Sym) with Name := (((ix eSapi_Sym.d a0.Syms v59) : Sapi_Sym).Name).extract ((0 : Int) : Int).toNat ((mnn ((((ix eSapi_Sym.d a0.Syms v59) : Sapi_Sym).Name).size : Int) 20) : Int).toNat } : Sapi_Sym)] : List Sapi_Sym) (by kernel_rfl) (by kernel_rfl) (by kernel_rfl) (by kernel_rfl) (by kernel_rfl) (by kernel_rfl) (by kernel_rfl)
  refine go_run hs (op := (Op.buildSlice 24 1 #[(0, (Operand.tmp 47))])) (ty := 24) (dst := some 48) (g := none) (by kernel_rfl) (by kernel_rfl) (by kernel_rfl) hx83 [1, 2, 3, 4, 46, 48] (L' := [(1, .pointer (some (⟨g19, 0, none⟩ : Addr))), (2, .pointer (some (⟨g23, 0, none⟩ : Addr))), (3, .pointer (some (⟨g43, 0, none⟩ : Addr))), (4, .int .i64 v59), (46, .slice Aa57 l56.length cc58), (48, .slice Aa80 ([({ ((ix eSapi_Sym.d a0.Syms v59) : Sapi_Sym) with Name := (((ix eSapi_Sym.d a0.Syms v59) : Sapi_Sym).Name).extract ((0 : Int) : Int).toNat ((mnn ((((ix eSapi_Sym.d a0.Syms v59) : Sapi_Sym).Name).size : Int) 20) : Int).toNat } : Sapi_Sym)] : List Sapi_Sym).length cc81)]) (by kernel_rfl) ?_
  clear hs; intro a hs
  obtain ⟨hp85, H⟩ := ite_only H
  have hsrc90 : Src Tryd.prog eSapi_Sym.sz 24 (.slice Aa80 ([({ ((ix eSapi_Sym.d a0.Syms v59) : Sapi_Sym) with Name := (((ix eSapi_Sym.d a0.Syms v59) : Sapi_Sym).Name).extract ((0 : Int) : Int).toNat ((mnn ((((ix eSapi_Sym.d a0.Syms v59) : Sapi_Sym).Name).size : Int) 20) : Int).toNat } : Sapi_Sym)] : List Sapi_Sym).length cc81) ([({ ((ix eSapi_Sym.d a0.Syms v59) : Sapi_Sym) with Name := (((ix eSapi_Sym.d a0.Syms v59) : Sapi_Sym).Name).extract ((0 : Int) : Int).toNat ((mnn ((((ix eSapi_Sym.d a0.Syms v59) : Sapi_Sym).Name).size : Int) 20) : Int).toNat } : Sapi_Sym)] : List Sapi_Sym).length (([({ ((ix eSapi_Sym.d a0.Syms v59) : Sapi_Sym) with Name := (((ix eSapi_Sym.d a0.Syms v59) : Sapi_Sym).Name).extract ((0 : Int) : Int).toNat ((mnn ((((ix eSapi_Sym.d a0.Syms v59) : Sapi_Sym).Name).size : Int) 20) : Int).toNat } : Sapi_Sym)] : List Sapi_Sym).flatMap eSapi_Sym.enc) _ := (Src.of_rd (E := eSapi_Sym) (e' := 39) (by kernel_rfl) (Rd.of_own (hw.up 0)))
  replace hw := hw.up 2
  obtain ⟨Aa86, cc87, wd88, hx89, hw⟩ := x_append (P := Tryd.prog) (t := 24) (tx := 24) (ty := 24) (x := (Operand.tmp 46)) (y := (Operand.tmp 48)) (z := .agg #[.string (⟨#[]⟩ : ByteArray), .int .i64 0]) (bytes := 24) (l2 := ([({ ((ix eSapi_Sym.d a0.Syms v59) : Sapi_Sym) with Name := (((ix eSapi_Sym.d a0.Syms v59) : Sapi_Sym).Name).extract ((0 : Int) : Int).toNat ((mnn ((((ix eSapi_Sym.d a0.Syms v59) : Sapi_Sym).Name).size : Int) 20) : Int).toNat } : Sapi_Sym)] : List Sapi_Sym)) hs hw (by kernel_rfl) (by kernel_rfl) (by kernel_rfl) (by kernel_rfl) (by kernel_rfl) hsrc90 (by omega) (by omega)
  refine go_run hs (op := (Op.call { callee := (Callee.builtin Builtin.append), args := #[(Operand.tmp 46), (Operand.tmp 48)], argTypes := #[24, 24] })) (ty := 24) (dst := some 49) (g := none) (by kernel_rfl) (by kernel_rfl) (by kernel_rfl) hx89 [1, 2, 3, 4, 49] (L' := [(1, .pointer (some (⟨g19, 0, none⟩ : Addr))), (2, .pointer (some (⟨g23, 0, none⟩ : Addr))), (3, .pointer (some (⟨g43, 0, none⟩ : Addr))), (4, .int .i64 v59), (49, .slice Aa86 (l56 ++ ([({ ((ix eSapi_Sym.d a0.Syms v59) : Sapi_Sym) with Name := (((ix eSapi_Sym.d a0.Syms v59) : Sapi_Sym).Name).extract ((0 : Int) : Int).toNat ((mnn ((((ix eSapi_Sym.d a0.Syms v59) : Sapi_Sym).Name).size : Int) 20) : Int).toNat } : Sapi_Sym)] : List Sapi_Sym)).length cc87)]) (by kernel_rfl) ?_
  clear hs; intro a hs
  refine go_pvs 5 6 [1, 2, 3, 4, 49, 50] hs (L' := [(1, .pointer (some (⟨g19, 0, none⟩ : Addr))), (2, .pointer (some (⟨g23, 0, none⟩ : Addr))), (3, .pointer (some (⟨g43, 0, none⟩ : Addr))), (4, .int .i64 v59), (49, .slice Aa86 (l56 ++ ([({ ((ix eSapi_Sym.d a0.Syms v59) : Sapi_Sym) with Name := (((ix eSapi_Sym.d a0.Syms v59) : Sapi_Sym).Name).extract ((0 : Int) : Int).toNat ((mnn ((((ix eSapi_Sym.d a0.Syms v59) : Sapi_Sym).Name).size : Int) 20) : Int).toNat } : Sapi_Sym)] : List Sapi_Sym)).length cc87), (50, .pointer (some (((⟨g43, 0, none⟩ : Addr) : Addr).add 2)))]) (by kernel_rfl) ?_ rfl
  clear hs; intro a hs
  replace hw := hw.up 3
  obtain ⟨wd91, hx92, hw⟩ := x_bput (P := Tryd.prog) (ty := 0) (t := 24) (y := (Operand.tmp 50)) (z := (Operand.tmp 49)) (o := 2) (p := ((⟨g43, 0, none⟩ : Addr) : Addr).add 2) (v := .slice Aa86 (l56 ++ ([({ ((ix eSapi_Sym.d a0.Syms v59) : Sapi_Sym) with Name := (((ix eSapi_Sym.d a0.Syms v59) : Sapi_Sym).Name).extract ((0 : Int) : Int).toNat ((mnn ((((ix eSapi_Sym.d a0.Syms v59) : Sapi_Sym).Name).size : Int) 20) : Int).toNat } : Sapi_Sym)] : List Sapi_Sym)).length cc87) (vs := [.slice Aa86 (l56 ++ ([({ ((ix eSapi_Sym.d a0.Syms v59) : Sapi_Sym) with Name := (((ix eSapi_Sym.d a0.Syms v59) : Sapi_Sym).Name).extract ((0 : Int) : Int).toNat ((mnn ((((ix eSapi_Sym.d a0.Syms v59) : Sapi_Sym).Name).size : Int) 20) : Int).toNat } : Sapi_Sym)] : List Sapi_Sym)).length cc87]) (cs' := [.slice Aa32 (a0.Words.take (mnn (a0.Words.length : Int) 30 : Int).toNat).length cc33, .slice Aa38 (a0.Sites.take (mnn (a0.Sites.length : Int) 30 : Int).toNat).length cc39, .slice Aa86 (l56 ++ ([({ ((ix eSapi_Sym.d a0.Syms v59) : Sapi_Sym) with Name := (((ix eSapi_Sym.d a0.Syms v59) : Sapi_Sym).Name).extract ((0 : Int) : Int).toNat ((mnn ((((ix eSapi_Sym.d a0.Syms v59) : Sapi_Sym).Name).size : Int) 20) : Int).toNat } : Sapi_Sym)] : List Sapi_Sym)).length cc87]) hs hw (by kernel_rfl) rfl (by kernel_rfl) rfl (by kernel_rfl) (by kernel_rfl) (by simp [Value.oneCell']) rfl
  refine go_unit hs (op := (Op.store 24 (Operand.tmp 50) (Operand.tmp 49))) (ty := 0) (dst := none) (g := none) (by kernel_rfl) (by kernel_rfl) (by kernel_rfl) hx92 [1, 2, 3, 4] (L' := [(1, .pointer (some (⟨g19, 0, none⟩ : Addr))), (2, .pointer (some (⟨g23, 0, none⟩ : Addr))), (3, .pointer (some (⟨g43, 0, none⟩ : Addr))), (4, .int .i64 v59)]) (by kernel_rfl) ?_
  clear hs; intro a hs
  refine go_end (by kernel_rfl) ?_
  refine ib_norm ?_
  refine hK66 _ _ ?_
  refine go_region ?_
  refine go_pvs 0 3 [1, 2, 3, 4] hs (L' := [(1, .pointer (some (⟨g19, 0, none⟩ : Addr))), (2, .pointer (some (⟨g23, 0, none⟩ : Addr))), (3, .pointer (some (⟨g43, 0, none⟩ : Addr))), (4, .int .i64 (w64 (v59 + 1)))]) (by kernel_rfl) ?_ rfl
  clear hs; intro a hs
  refine go_end (by kernel_rfl) ?_
  replace hw := hw.up 13
  replace hw := hw.up 13
  replace hw := hw.up 13
  replace hw := hw.up 13
  replace hw := hw.up 13
  replace hw := hw.up 13
  replace hw := hw.up 13
  replace hw := hw.up 13
  replace hw := hw.up 13
  replace hw := hw.up 13
  replace hw := hw.up 10
  replace hw := hw.up 11
  replace hw := hw.only 12
  exact round_end (l56 ++ ([({ ((ix eSapi_Sym.d a0.Syms v59) : Sapi_Sym) with Name := (((ix eSapi_Sym.d a0.Syms v59) : Sapi_Sym).Name).extract ((0 : Int) : Int).toNat ((mnn ((((ix eSapi_Sym.d a0.Syms v59) : Sapi_Sym).Name).size : Int) 20) : Int).toNat } : Sapi_Sym)] : List Sapi_Sym), w64 (v59 + 1)) (Option.some.inj H).symm ⟨Aa86, cc87, hs.keep [1, 2, 3, 4] (by kernel_rfl), hw⟩
 refine go_seq_k fun K61 hK61 => ?_
 have hJ1 : ∀ (v63 : Bool) (a : Act) (w : World), Slots a 52 [(1, .pointer (some (⟨g19, 0, none⟩ : Addr))), (2, .pointer (some (⟨g23, 0, none⟩ : Addr))), (3, .pointer (some (⟨g43, 0, none⟩ : Addr))), (4, .int .i64 v59), (29, .bool v63)] → St [] w0 w [own 39 eSapi_Sym Aa57 cc58 l56, box g43 26 [.slice Aa32 (a0.Words.take (mnn (a0.Words.length : Int) 30 : Int).toNat).length cc33, .slice Aa38 (a0.Sites.take (mnn (a0.Sites.length : Int) 30 : Int).toNat).length cc39, .slice Aa57 l56.length cc58], own 39 eSapi_Sym none 0 ([] : List Sapi_Sym), own 3 (eI .i64) none 0 ([] : List Int), own 37 (eI .u32) none 0 ([] : List Int), own 39 eSapi_Sym none 0 ([] : List Sapi_Sym), own 3 (eI .i64) none 0 ([] : List Int), own 37 (eI .u32) none 0 ([] : List Int), box g23 26 [.slice none ([] : List Int).length 0, .slice none ([] : List Int).length 0, .slice none ([] : List Sapi_Sym).length 0], box g19 26 [.slice A0_1 a0.Words.length c0_1, .slice A0_2 a0.Sites.length c0_2, .slice A0_3 a0.Syms.length c0_3], box g6 26 [.slice A1_1 a1.Words.length c1_1, .slice A1_2 a1.Sites.length c1_2, .slice A1_3 a1.Syms.length c1_3], box g2 26 [.slice A0_1 a0.Words.length c0_1, .slice A0_2 a0.Sites.length c0_2, .slice A0_3 a0.Syms.length c0_3]] → rivetlaw09_ObjectAll.j1 v59 a0 l56 v63 = some o → K61 a w := by
  intro v63 a w hs hw H
  unfold rivetlaw09_ObjectAll.j1 at H
  refine hK61 _ _ ?_
  refine go_cond hs v63 (by kernel_rfl) (fun hc => ?_) (fun hc => ?_)
  ·replace H := ite_t H hc
   have hb64 := hc
   rw [hb64] at hs
   refine wp_skip ?_
   replace hw := hw.up 11
   replace hw := hw.up 11
   replace hw := hw.up 11
   replace hw := hw.up 11
   replace hw := hw.up 11
   replace hw := hw.up 11
   replace hw := hw.up 11
   replace hw := hw.up 11
   replace hw := hw.up 11
   replace hw := hw.up 11
   replace hw := hw.up 11
   replace hw := hw.up 11
   replace hw := hw.only 12
   exact hJ2 _ _ (hs.keep [1, 2, 3, 4] (by kernel_rfl)) hw H
  ·replace H := ite_f H (ff hc)
   have hb65 := hc
   rw [hb65] at hs
   refine wp_exit ?_
   refine th_exit ?_
   refine th_exit ?_
   refine in_block ?_
   replace hw := hw.up 11
   replace hw := hw.up 11
   replace hw := hw.up 11
   replace hw := hw.up 11
   replace hw := hw.up 11
   replace hw := hw.up 11
   replace hw := hw.up 11
   replace hw := hw.up 11
   replace hw := hw.up 11
   replace hw := hw.up 11
   replace hw := hw.up 11
   replace hw := hw.up 11
   replace hw := hw.only 12
   rw [← hr55 _ (Option.some.inj H).symm] at HX55
   exact hJ3 Aa57 cc58 l56 _ _ (hs.keep [2, 3] (by kernel_rfl)) hw HX55
 refine go_region ?_
 refine go_pvs 0 2 [1, 2, 3, 4, 21, 22] hs (L' := [(1, .pointer (some (⟨g19, 0, none⟩ : Addr))), (2, .pointer (some (⟨g23, 0, none⟩ : Addr))), (3, .pointer (some (⟨g43, 0, none⟩ : Addr))), (4, .int .i64 v59), (21, .int .i64 v59), (22, .pointer (some (((⟨g19, 0, none⟩ : Addr) : Addr).add 2)))]) (by kernel_rfl) ?_ rfl
 clear hs; intro a hs
 refine go_run hs (op := (Op.load 24 (Operand.tmp 22))) (ty := 24) (dst := some 23) (g := none) (by kernel_rfl) (by kernel_rfl) (by kernel_rfl) (x_bld (g := g19) (o := 2) (p := ((⟨g19, 0, none⟩ : Addr) : Addr).add 2) (v := .slice A0_3 a0.Syms.length c0_3) (hw.up 9) (by kernel_rfl) rfl (by kernel_rfl) (by kernel_rfl)) [1, 2, 3, 4, 21, 23] (L' := [(1, .pointer (some (⟨g19, 0, none⟩ : Addr))), (2, .pointer (some (⟨g23, 0, none⟩ : Addr))), (3, .pointer (some (⟨g43, 0, none⟩ : Addr))), (4, .int .i64 v59), (21, .int .i64 v59), (23, .slice A0_3 a0.Syms.length c0_3)]) (by kernel_rfl) ?_
 clear hs; intro a hs
 refine go_pvs 3 6 [1, 2, 3, 4, 26] hs (L' := [(1, .pointer (some (⟨g19, 0, none⟩ : Addr))), (2, .pointer (some (⟨g23, 0, none⟩ : Addr))), (3, .pointer (some (⟨g43, 0, none⟩ : Addr))), (4, .int .i64 v59), (26, .bool (decide (v59 < (a0.Syms.length : Int))))]) (by kernel_rfl) ?_ rfl
 clear hs; intro a hs
 cases hb62 : (decide (v59 < (a0.Syms.length : Int)))
 ·replace H := ite_f H (of_decide_eq_false hb62)
  rw [hb62] at hs
  refine go_pvs 6 9 [1, 2, 3, 4, 29] hs (L' := [(1, .pointer (some (⟨g19, 0, none⟩ : Addr))), (2, .pointer (some (⟨g23, 0, none⟩ : Addr))), (3, .pointer (some (⟨g43, 0, none⟩ : Addr))), (4, .int .i64 v59), (29, .bool false)]) (by kernel_rfl) ?_ rfl
  clear hs; intro a hs
  refine go_end (by kernel_rfl) ?_
  replace hw := hw.up 11
  replace hw := hw.up 11
  replace hw := hw.up 11
  replace hw := hw.up 11
  replace hw := hw.up 11
  replace hw := hw.up 11
  replace hw := hw.up 11
  replace hw := hw.up 11
  replace hw := hw.up 11
  replace hw := hw.up 11
  replace hw := hw.up 11
  replace hw := hw.up 11
  replace hw := hw.only 12
  exact hJ1 false _ _ (hs.keep [1, 2, 3, 4, 29] (by kernel_rfl)) hw H
 ·replace H := ite_t H (of_decide_eq_true hb62)
  rw [hb62] at hs
  refine go_pvs 6 9 [1, 2, 3, 4, 29] hs (L' := [(1, .pointer (some (⟨g19, 0, none⟩ : Addr))), (2, .pointer (some (⟨g23, 0, none⟩ : Addr))), (3, .pointer (some (⟨g43, 0, none⟩ : Addr))), (4, .int .i64 v59), (29, .bool (decide (v59 < 12)))]) (by kernel_rfl) ?_ rfl
  clear hs; intro a hs
  refine go_end (by kernel_rfl) ?_
  replace hw := hw.up 11
  replace hw := hw.up 11
  replace hw := hw.up 11
  replace hw := hw.up 11
  replace hw := hw.up 11
  replace hw := hw.up 11
  replace hw := hw.up 11
  replace hw := hw.up 11
  replace hw := hw.up 11
  replace hw := hw.up 11
  replace hw := hw.up 11
  replace hw := hw.up 11
  replace hw := hw.only 12
  exact hJ1 (decide (v59 < 12)) _ _ (hs.keep [1, 2, 3, 4, 29] (by kernel_rfl)) hw H

end Go.Proofs.YtmfnololpfdfdaaDoor.T09
