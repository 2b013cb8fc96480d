/- YtmfnololpfdfdaaDoorT09zFileAll: Go functions told as plain ones, each with a proof that its call comes to what is told, part 1. Condition of each: that the plain function comes to a value. -/
import Derived.Test.YtmfnololpfdfdaaDoorT10
import Derived.Test.YtmfnololpfdfdaaDoorEO
import Derived.Test.YtmfnololpfdfdaaDoorProg
namespace Go.Proofs.YtmfnololpfdfdaaDoor.T09
open Go Go.RowKit Go.Proofs.YtmfnololpfdfdaaDoor.E
set_option linter.unusedVariables false
set_option linter.unusedSimpArgs false

/-! rivet/rivetlaw10.FileAll: function 7 -/
noncomputable def rivetlaw10_FileAll.j2 (v55 : Int) (a0 : Sapi_Obj) (l52 : List Sapi_Sym) : Option ((List Sapi_Sym) × Int ⊕ (List Sapi_Sym)) := (if 0 ≤ v55 ∧ v55 < (a0.Syms.length : Int) then (if 0 ≤ (0 : Int) ∧ (0 : Int) ≤ (mnn ((((ix eSapi_Sym.d a0.Syms v55) : Sapi_Sym).Name).size : Int) 20) ∧ (mnn ((((ix eSapi_Sym.d a0.Syms v55) : Sapi_Sym).Name).size : Int) 20) ≤ ((((ix eSapi_Sym.d a0.Syms v55) : Sapi_Sym).Name).size : Int) then (if l52.length + ([({ ((ix eSapi_Sym.d a0.Syms v55) : Sapi_Sym) with Name := (((ix eSapi_Sym.d a0.Syms v55) : Sapi_Sym).Name).extract ((0 : Int) : Int).toNat ((mnn ((((ix eSapi_Sym.d a0.Syms v55) : Sapi_Sym).Name).size : Int) 20) : Int).toNat } : Sapi_Sym)] : List Sapi_Sym).length ≤ 5864062014805 then some (.inl (l52 ++ ([({ ((ix eSapi_Sym.d a0.Syms v55) : Sapi_Sym) with Name := (((ix eSapi_Sym.d a0.Syms v55) : Sapi_Sym).Name).extract ((0 : Int) : Int).toNat ((mnn ((((ix eSapi_Sym.d a0.Syms v55) : Sapi_Sym).Name).size : Int) 20) : Int).toNat } : Sapi_Sym)] : List Sapi_Sym), w64 (v55 + 1))) else none) else none) else none)
noncomputable def rivetlaw10_FileAll.j1 (v55 : Int) (a0 : Sapi_Obj) (l52 : List Sapi_Sym) (v59 : Bool) : Option ((List Sapi_Sym) × Int ⊕ (List Sapi_Sym)) := (if v59 = true then rivetlaw10_FileAll.j2 v55 a0 l52 else some (.inr l52))
noncomputable def rivetlaw10_FileAll.j5 (v147 : Int) (a0 : Sapi_Obj) (l144 : List Sapi_Sym) : Option ((List Sapi_Sym) × Int ⊕ (List Sapi_Sym)) := (if 0 ≤ v147 ∧ v147 < (a0.Syms.length : Int) then (if 0 ≤ (0 : Int) ∧ (0 : Int) ≤ (mnn ((((ix eSapi_Sym.d a0.Syms v147) : Sapi_Sym).Name).size : Int) 20) ∧ (mnn ((((ix eSapi_Sym.d a0.Syms v147) : Sapi_Sym).Name).size : Int) 20) ≤ ((((ix eSapi_Sym.d a0.Syms v147) : Sapi_Sym).Name).size : Int) then (if l144.length + ([({ ((ix eSapi_Sym.d a0.Syms v147) : Sapi_Sym) with Name := (((ix eSapi_Sym.d a0.Syms v147) : Sapi_Sym).Name).extract ((0 : Int) : Int).toNat ((mnn ((((ix eSapi_Sym.d a0.Syms v147) : Sapi_Sym).Name).size : Int) 20) : Int).toNat } : Sapi_Sym)] : List Sapi_Sym).length ≤ 5864062014805 then some (.inl (l144 ++ ([({ ((ix eSapi_Sym.d a0.Syms v147) : Sapi_Sym) with Name := (((ix eSapi_Sym.d a0.Syms v147) : Sapi_Sym).Name).extract ((0 : Int) : Int).toNat ((mnn ((((ix eSapi_Sym.d a0.Syms v147) : Sapi_Sym).Name).size : Int) 20) : Int).toNat } : Sapi_Sym)] : List Sapi_Sym), w64 (v147 + 1))) else none) else none) else none)
noncomputable def rivetlaw10_FileAll.j4 (v147 : Int) (a0 : Sapi_Obj) (l144 : List Sapi_Sym) (v151 : Bool) : Option ((List Sapi_Sym) × Int ⊕ (List Sapi_Sym)) := (if v151 = true then rivetlaw10_FileAll.j5 v147 a0 l144 else some (.inr l144))
noncomputable def rivetlaw10_FileAll.j7 (v274 : Bool) : Option Bool := some v274
noncomputable def rivetlaw10_FileAll.j6 (a0 : Sapi_Obj) (l1 : List Int) (t8 : Bool) (t96 : List Int) (t97 : Int) (l181 : List Sapi_Sym) : Option Bool := ((rivetref10_Put (⟨a0.Words.take (mnn (a0.Words.length : Int) 30 : Int).toNat, a0.Sites.take (mnn (a0.Sites.length : Int) 30 : Int).toNat, l181⟩ : Sapi_Obj)).bind fun ⟨t188, t189⟩ => ((if 0 ≤ (mnn (l1.length : Int) 400) ∧ (mnn (l1.length : Int) 400) ≤ (l1.length : Int) then ((file_Take (l1.take (mnn (l1.length : Int) 400 : Int).toNat)).bind fun ⟨t207, t208⟩ => ((if 0 ≤ (mnn (l1.length : Int) 400) ∧ (mnn (l1.length : Int) 400) ≤ (l1.length : Int) then ((rivetref10_Take (l1.take (mnn (l1.length : Int) 400 : Int).toNat)).bind fun ⟨t241, t242⟩ => ((if t8 = true then (if ((strOfNums t96).toList == (strOfNums t188).toList) = true then (if t97 = t189 then ((rivetref09_Same t207 t241).bind fun t269 => ((if t269 = true then rivetlaw10_FileAll.j7 (t208 == t242) else rivetlaw10_FileAll.j7 false))) else rivetlaw10_FileAll.j7 false) else rivetlaw10_FileAll.j7 false) else rivetlaw10_FileAll.j7 false))) else none))) else none)))
noncomputable def rivetlaw10_FileAll.b143 (a0 : Sapi_Obj) (l144 : List Sapi_Sym) (v147 : Int) : Option ((List Sapi_Sym) × Int ⊕ (List Sapi_Sym)) := (if v147 < (a0.Syms.length : Int) then rivetlaw10_FileAll.j4 v147 a0 l144 (decide (v147 < 12)) else rivetlaw10_FileAll.j4 v147 a0 l144 false)
noncomputable def rivetlaw10_FileAll.j3 (a0 : Sapi_Obj) (l1 : List Int) (t8 : Bool) (l89 : List Sapi_Sym) : Option Bool := ((file_Put (⟨a0.Words.take (mnn (a0.Words.length : Int) 30 : Int).toNat, a0.Sites.take (mnn (a0.Sites.length : Int) 30 : Int).toNat, l89⟩ : Sapi_Obj)).bind fun ⟨t96, t97⟩ => ((if 0 ≤ (mnn (a0.Words.length : Int) 30) ∧ (mnn (a0.Words.length : Int) 30) ≤ (a0.Words.length : Int) then (if 0 ≤ (mnn (a0.Sites.length : Int) 30) ∧ (mnn (a0.Sites.length : Int) 30) ≤ (a0.Sites.length : Int) then ((loopO (fun (σ : (List Sapi_Sym) × Int) => rivetlaw10_FileAll.b143 a0 σ.1 σ.2) (([] : List Sapi_Sym), 0)).bind fun e => rivetlaw10_FileAll.j6 a0 l1 t8 t96 t97 e) else none) else none)))
noncomputable def rivetlaw10_FileAll.b51 (a0 : Sapi_Obj) (l52 : List Sapi_Sym) (v55 : Int) : Option ((List Sapi_Sym) × Int ⊕ (List Sapi_Sym)) := (if v55 < (a0.Syms.length : Int) then rivetlaw10_FileAll.j1 v55 a0 l52 (decide (v55 < 12)) else rivetlaw10_FileAll.j1 v55 a0 l52 false)
noncomputable def rivetlaw10_FileAll (a0 : Sapi_Obj) (l1 : List Int) : Option Bool := ((rivetlaw10_shown).bind fun t8 => ((if 0 ≤ (mnn (a0.Words.length : Int) 30) ∧ (mnn (a0.Words.length : Int) 30) ≤ (a0.Words.length : Int) then (if 0 ≤ (mnn (a0.Sites.length : Int) 30) ∧ (mnn (a0.Sites.length : Int) 30) ≤ (a0.Sites.length : Int) then ((loopO (fun (σ : (List Sapi_Sym) × Int) => rivetlaw10_FileAll.b51 a0 σ.1 σ.2) (([] : List Sapi_Sym), 0)).bind fun e => rivetlaw10_FileAll.j3 a0 l1 t8 e) else none) else none)))
set_option maxRecDepth 100000 in
set_option maxHeartbeats 4000000 in
theorem rivetlaw10_FileAll.calls (a0 : Sapi_Obj) (A0_1 : Option Addr) (c0_1 : Nat) (A0_2 : Option Addr) (c0_2 : Nat) (A0_3 : Option Addr) (c0_3 : Nat) (A1 : Option Addr) (c1 : Nat) (l1 : List Int) (r : Bool) (w0 : World) (hr0_1 : Rd w0 (eI .u32) A0_1 c0_1 a0.Words) (hr0_2 : Rd w0 (eI .i64) A0_2 c0_2 a0.Sites) (hr0_3 : Rd w0 eSapi_Sym A0_3 c0_3 a0.Syms) (hr1 : Rd w0 (eI .u8) A1 c1 l1) (H : rivetlaw10_FileAll a0 l1 = some r) :
    Calls Tryd.prog 7 #[.agg #[.slice A0_1 a0.Words.length c0_1, .slice A0_2 a0.Sites.length c0_2, .slice A0_3 a0.Syms.length c0_3], .slice A1 l1.length c1] w0 fun e w' => e = .returned (.bool r) ∧ St [] w0 w' [] := by
 have hw : St [] w0 w0 [] := St.nil w0
 unfold rivetlaw10_FileAll at H
 refine go_fn Tryd.func7 rfl Tryd.ntmps7 ?_; intro a hs
 refine go_sk fun K1 hK1 => ?_
 obtain ⟨g2, wd3, hx4, hw⟩ := x_boxc (P := Tryd.prog) (elem := 26) (v := (Operand.tmp 0)) (ty := 0) (cs := [.slice A0_1 a0.Words.length c0_1, .slice A0_2 a0.Sites.length c0_2, .slice A0_3 a0.Syms.length c0_3]) hs hw (by kernel_rfl)
 refine go_run hs (by rfl) hx4 [0] ?_; clear hs; intro a hs
 refine go_pvs 2 [] [] hs ?_; clear hs; intro a hs
 refine go_end (hK1 _ _ ?_)
 refine go_sk fun K6 hK6 => ?_
 obtain ⟨t8, hx9, H⟩ := bind_some H
 refine go_call hs (by rfl) (rivetlaw10_shown.calls t8 _ hx9) ?_
 rintro e wd10 ⟨rfl, hw11⟩
 refine ⟨_, rfl, ?_⟩
 replace hw := hw.call hw11
 clear hs; intro a hs
 refine go_pvs 2 [14] [(5, .bool t8)] hs ?_; clear hs; intro a hs
 refine go_end (hK6 _ _ ?_)
 refine go_sk fun K12 hK12 => ?_
 refine go_run hs (by rfl) (x_blds (g := g2) (o := 0) (p := (⟨g2, 0, none⟩ : Addr)) (vs := [.slice A0_1 a0.Words.length c0_1, .slice A0_2 a0.Sites.length c0_2, .slice A0_3 a0.Syms.length c0_3]) (hw.up 0)) [] ?_; clear hs; intro a hs
 refine go_inline_k hs (by rfl) (f := 22) (args := #[.agg #[.slice A0_1 a0.Words.length c0_1, .slice A0_2 a0.Sites.length c0_2, .slice A0_3 a0.Syms.length c0_3]]) (fun KR13 hKR13 => ?_)
 refine go_fn Tryd.func22 rfl Tryd.ntmps22 ?_; clear hs; intro a hs
 refine go_sk fun K14 hK14 => ?_
 obtain ⟨g15, wd16, hx17, hw⟩ := x_boxc (P := Tryd.prog) (elem := 26) (v := (Operand.tmp 0)) (ty := 0) (cs := [.slice A0_1 a0.Words.length c0_1, .slice A0_2 a0.Sites.length c0_2, .slice A0_3 a0.Syms.length c0_3]) hs hw (by kernel_rfl)
 refine go_run hs (by rfl) hx17 [0] ?_; clear hs; intro a hs
 obtain ⟨g19, wd20, hx21, hw⟩ := x_allocc (P := Tryd.prog) (elem := 26) (ty := 0) (z := .agg #[.slice none 0 0, .slice none 0 0, .slice none 0 0]) (cs := [.slice none 0 0, .slice none 0 0, .slice none 0 0]) hs hw (by kernel_rfl) (by kernel_rfl)
 refine go_run hs (by rfl) hx21 [] ?_; clear hs; intro a hs
 replace hw := St.own_nil hw 37 (eI .u32)
 replace hw := St.own_nil hw 3 (eI .i64)
 replace hw := St.own_nil hw 39 eSapi_Sym
 replace hw : St [] w0 wd20 [own 39 eSapi_Sym none 0 ([] : List Sapi_Sym), own 3 (eI .i64) none 0 ([] : List Int), own 37 (eI .u32) none 0 ([] : List Int), box g19 26 [.slice none ([] : List Int).length 0, .slice none ([] : List Int).length 0, .slice none ([] : List Sapi_Sym).length 0], box g15 26 [.slice A0_1 a0.Words.length c0_1, .slice A0_2 a0.Sites.length c0_2, .slice A0_3 a0.Syms.length c0_3], box g2 26 [.slice A0_1 a0.Words.length c0_1, .slice A0_2 a0.Sites.length c0_2, .slice A0_3 a0.Syms.length c0_3]] := hw
 refine go_end (hK14 _ _ ?_)
 refine go_seq_k fun K26 hK26 => ?_
 refine d_region [16] [(true, [0, 1, 2, 3, 4, 5, 6, 7, 8, 9, 10, 11, 12, 13, 14], 15), (true, [], 16)] [] (by kernel_rfl) (by kernel_rfl) (fun c a d v w h => by cases d <;> exact h) ?_
 refine d_seg ?_
 refine c_pvs [0] [1, 2, 3, 4, 5, 6, 7, 8, 9, 10, 11, 12, 13, 14] [] [(6, .pointer (some (((⟨g15, 0, none⟩ : Addr) : Addr).add 0)))] hs ?_; clear hs; intro a hs
 refine d_run hs (by rfl) (fun wx hbx => (x_bldD (g := g15) (o := 0) (p := ((⟨g15, 0, none⟩ : Addr) : Addr).add 0) (v := .slice A0_1 a0.Words.length c0_1) (hw.up 4) hbx)) [6] ?_; clear hs; intro a hs
 refine c_pvs [2] [3, 4, 5, 6, 7, 8, 9, 10, 11, 12, 13, 14] [] [(8, .pointer (some (((⟨g15, 0, none⟩ : Addr) : Addr).add 0)))] hs ?_; clear hs; intro a hs
 refine d_run hs (by rfl) (fun wx hbx => (x_bldD (g := g15) (o := 0) (p := ((⟨g15, 0, none⟩ : Addr) : Addr).add 0) (v := .slice A0_1 a0.Words.length c0_1) (hw.up 4) hbx)) [8] ?_; clear hs; intro a hs
 refine c_pvs [4, 5] [6, 7, 8, 9, 10, 11, 12, 13, 14] [9] [(11, .int .i64 (mnn (a0.Words.length : Int) 30))] hs ?_; clear hs; intro a hs
 obtain ⟨hp27, H⟩ := ite_only H
 obtain ⟨Aa28, cc29, hx30, hc31⟩ := w_hi (P := Tryd.prog) (ty := 22) (E := (eI .u32)) (T := 37) (t := 22) (x := (Operand.tmp 7)) (y := (Operand.tmp 11)) (k := .i64) hs (by kernel_rfl) (by kernel_rfl) (hr0_1.old hw) (by kernel_rfl) (by kernel_rfl) hp27.1 hp27.2
 refine d_run hs (by rfl) (fun wx hbx => (hx30 wx)) [7, 11] ?_; clear hs; intro a hs
 refine c_pvs [7] [8, 9, 10, 11, 12, 13, 14] [] [(13, .pointer (some (((⟨g15, 0, none⟩ : Addr) : Addr).add 1)))] hs ?_; clear hs; intro a hs
 refine d_run hs (by rfl) (fun wx hbx => (x_bldD (g := g15) (o := 1) (p := ((⟨g15, 0, none⟩ : Addr) : Addr).add 1) (v := .slice A0_2 a0.Sites.length c0_2) (hw.up 4) hbx)) [13] ?_; clear hs; intro a hs
 refine c_pvs [9] [10, 11, 12, 13, 14] [] [(15, .pointer (some (((⟨g15, 0, none⟩ : Addr) : Addr).add 1)))] hs ?_; clear hs; intro a hs
 refine d_run hs (by rfl) (fun wx hbx => (x_bldD (g := g15) (o := 1) (p := ((⟨g15, 0, none⟩ : Addr) : Addr).add 1) (v := .slice A0_2 a0.Sites.length c0_2) (hw.up 4) hbx)) [15] ?_; clear hs; intro a hs
 refine c_pvs [11, 12] [13, 14] [16] [(18, .int .i64 (mnn (a0.Sites.length : Int) 30))] hs ?_; clear hs; intro a hs
 obtain ⟨hp33, H⟩ := ite_only H
 obtain ⟨Aa34, cc35, hx36, hc37⟩ := w_hi (P := Tryd.prog) (ty := 23) (E := (eI .i64)) (T := 3) (t := 23) (x := (Operand.tmp 14)) (y := (Operand.tmp 18)) (k := .i64) hs (by kernel_rfl) (by kernel_rfl) (hr0_2.old hw) (by kernel_rfl) (by kernel_rfl) hp33.1 hp33.2
 refine d_run hs (by rfl) (fun wx hbx => (hx36 wx)) [14, 18] ?_; clear hs; intro a hs
 refine c_pvs [14] [] [12, 19] [(20, .agg #[.slice Aa28 (a0.Words.take (mnn (a0.Words.length : Int) 30 : Int).toNat).length cc29, .slice Aa34 (a0.Sites.take (mnn (a0.Sites.length : Int) 30 : Int).toNat).length cc35, .slice none 0 0])] hs ?_; clear hs; intro a hs
 refine c_end ?_
 intro wq hbq
 replace hw := hw.behind hbq
 have hbc := Below.refl wq.heap.size wq
 obtain ⟨g39, wd40, hx41, hwn⟩ := x_allocc (P := Tryd.prog) (elem := 26) (ty := 0) (z := .agg #[.slice none 0 0, .slice none 0 0, .slice none 0 0]) (cs := [.slice none 0 0, .slice none 0 0, .slice none 0 0]) hs (nil_of hw) (by kernel_rfl) (by kernel_rfl)
 replace hbc := hwn.below
 replace hw := hw.call hwn
 clear hwn
 refine p_run hs (by rfl) hx41 [] ?_; clear hs; intro a hs
 replace hw := St.own_nil hw 37 (eI .u32)
 replace hw := St.own_nil hw 3 (eI .i64)
 replace hw := St.own_nil hw 39 eSapi_Sym
 replace hw : St [] w0 wd40 [own 39 eSapi_Sym none 0 ([] : List Sapi_Sym), own 3 (eI .i64) none 0 ([] : List Int), own 37 (eI .u32) none 0 ([] : List Int), box g39 26 [.slice none ([] : List Int).length 0, .slice none ([] : List Int).length 0, .slice none ([] : List Sapi_Sym).length 0], own 39 eSapi_Sym none 0 ([] : List Sapi_Sym), own 3 (eI .i64) none 0 ([] : List Int), own 37 (eI .u32) none 0 ([] : List Int), box g19 26 [.slice none ([] : List Int).length 0, .slice none ([] : List Int).length 0, .slice none ([] : List Sapi_Sym).length 0], box g15 26 [.slice A0_1 a0.Words.length c0_1, .slice A0_2 a0.Sites.length c0_2, .slice A0_3 a0.Syms.length c0_3], box g2 26 [.slice A0_1 a0.Words.length c0_1, .slice A0_2 a0.Sites.length c0_2, .slice A0_3 a0.Syms.length c0_3]] := hw
 refine c_done ⟨.inr (bn_of hbq hbc), ?_⟩
 clear hbc hbq
 refine d_seg ?_
 refine c_end ?_
 intro wq hbq
 replace hw := hw.behind hbq
 replace hw := hw.up 3
 obtain ⟨wd46, hx47, hw⟩ := x_bput (P := Tryd.prog) (ty := 0) (t := 26) (y := (Operand.tmp 3)) (z := (Operand.tmp 20)) (o := 0) (p := (⟨g39, 0, none⟩ : Addr)) (v := .agg #[.slice Aa28 (a0.Words.take (mnn (a0.Words.length : Int) 30 : Int).toNat).length cc29, .slice Aa34 (a0.Sites.take (mnn (a0.Sites.length : Int) 30 : Int).toNat).length cc35, .slice none 0 0]) (vs := [.slice Aa28 (a0.Words.take (mnn (a0.Words.length : Int) 30 : Int).toNat).length cc29, .slice Aa34 (a0.Sites.take (mnn (a0.Sites.length : Int) 30 : Int).toNat).length cc35, .slice none 0 0]) (cs' := [.slice Aa28 (a0.Words.take (mnn (a0.Words.length : Int) 30 : Int).toNat).length cc29, .slice Aa34 (a0.Sites.take (mnn (a0.Sites.length : Int) 30 : Int).toNat).length cc35, .slice none 0 0]) hs hw (by kernel_rfl) rfl (by kernel_rfl) rfl (by kernel_rfl) (by kernel_rfl) (by simp [Value.oneCell']) rfl
 refine p_unit hs (by rfl) hx47 [20] ?_; clear hs; intro a hs
 replace hw := St.own_nil hw 39 eSapi_Sym
 replace hw : St [] w0 wd46 [own 39 eSapi_Sym none 0 ([] : List Sapi_Sym), box g39 26 [.slice Aa28 (a0.Words.take (mnn (a0.Words.length : Int) 30 : Int).toNat).length cc29, .slice Aa34 (a0.Sites.take (mnn (a0.Sites.length : Int) 30 : Int).toNat).length cc35, .slice none ([] : List Sapi_Sym).length 0], own 39 eSapi_Sym none 0 ([] : List Sapi_Sym), own 3 (eI .i64) none 0 ([] : List Int), own 37 (eI .u32) none 0 ([] : List Int), own 39 eSapi_Sym none 0 ([] : List Sapi_Sym), own 3 (eI .i64) none 0 ([] : List Int), own 37 (eI .u32) none 0 ([] : List Int), box g19 26 [.slice none ([] : List Int).length 0, .slice none ([] : List Int).length 0, .slice none ([] : List Sapi_Sym).length 0], box g15 26 [.slice A0_1 a0.Words.length c0_1, .slice A0_2 a0.Sites.length c0_2, .slice A0_3 a0.Syms.length c0_3], box g2 26 [.slice A0_1 a0.Words.length c0_1, .slice A0_2 a0.Sites.length c0_2, .slice A0_3 a0.Syms.length c0_3]] := hw
 refine c_done ⟨.inl (by kernel_rfl), ?_⟩
 clear hbq
 refine d_last ?_
 refine c_end ?_
 intro wq hbq
 replace hw := hw.behind hbq
 refine hK26 _ _ ?_
 refine go_seq_k fun K49 hK49 => ?_
 refine go_sp [] [(4, .int .i64 0)] hs ?_; clear hs; intro a hs
 refine wp_block ?_
 obtain ⟨e51, hl51, HX51⟩ := bind_some H
 have hJ3 : ∀ (Aa90 : Option Addr) (cc91 : Nat) (l89 : List Sapi_Sym) (a : Act) (w : World), Slots a 52 [(2, .pointer (some (⟨g19, 0, none⟩ : Addr))), (3, .pointer (some (⟨g39, 0, none⟩ : Addr)))] → St [] w0 w [own 39 eSapi_Sym Aa90 cc91 l89, box g39 26 [.slice Aa28 (a0.Words.take (mnn (a0.Words.length : Int) 30 : Int).toNat).length cc29, .slice Aa34 (a0.Sites.take (mnn (a0.Sites.length : Int) 30 : Int).toNat).length cc35, .slice Aa90 l89.length cc91], own 39 eSapi_Sym none 0 ([] : List Sapi_Sym), own 3 (eI .i64) none 0 ([] : List Int), own 37 (eI .u32) none 0 ([] : List Int), own 39 eSapi_Sym none 0 ([] : List Sapi_Sym), own 3 (eI .i64) none 0 ([] : List Int), own 37 (eI .u32) none 0 ([] : List Int), box g19 26 [.slice none ([] : List Int).length 0, .slice none ([] : List Int).length 0, .slice none ([] : List Sapi_Sym).length 0], box g15 26 [.slice A0_1 a0.Words.length c0_1, .slice A0_2 a0.Sites.length c0_2, .slice A0_3 a0.Syms.length c0_3], box g2 26 [.slice A0_1 a0.Words.length c0_1, .slice A0_2 a0.Sites.length c0_2, .slice A0_3 a0.Syms.length c0_3]] → rivetlaw10_FileAll.j3 a0 l1 t8 l89 = some r → K49 a w := by
  intro Aa90 cc91 l89 a w hs hw H
  unfold rivetlaw10_FileAll.j3 at H
  refine hK49 _ _ ?_
  refine go_sk fun K92 hK92 => ?_
  refine go_run hs (by rfl) (x_blds (g := g39) (o := 0) (p := (⟨g39, 0, none⟩ : Addr)) (vs := [.slice Aa28 (a0.Words.take (mnn (a0.Words.length : Int) 30 : Int).toNat).length cc29, .slice Aa34 (a0.Sites.take (mnn (a0.Sites.length : Int) 30 : Int).toNat).length cc35, .slice Aa90 l89.length cc91]) (hw.up 1)) [3] ?_; clear hs; intro a hs
  replace hw := hw.up 8
  obtain ⟨wd93, hx94, hw⟩ := x_bput (P := Tryd.prog) (ty := 0) (t := 26) (y := (Operand.tmp 2)) (z := (Operand.tmp 51)) (o := 0) (p := (⟨g19, 0, none⟩ : Addr)) (v := .agg #[.slice Aa28 (a0.Words.take (mnn (a0.Words.length : Int) 30 : Int).toNat).length cc29, .slice Aa34 (a0.Sites.take (mnn (a0.Sites.length : Int) 30 : Int).toNat).length cc35, .slice Aa90 l89.length cc91]) (vs := [.slice Aa28 (a0.Words.take (mnn (a0.Words.length : Int) 30 : Int).toNat).length cc29, .slice Aa34 (a0.Sites.take (mnn (a0.Sites.length : Int) 30 : Int).toNat).length cc35, .slice Aa90 l89.length cc91]) (cs' := [.slice Aa28 (a0.Words.take (mnn (a0.Words.length : Int) 30 : Int).toNat).length cc29, .slice Aa34 (a0.Sites.take (mnn (a0.Sites.length : Int) 30 : Int).toNat).length cc35, .slice Aa90 l89.length cc91]) hs hw (by kernel_rfl) rfl (by kernel_rfl) rfl (by kernel_rfl) (by kernel_rfl) (by simp [Value.oneCell']) rfl
  refine go_unit hs (by rfl) hx94 [51] ?_; clear hs; intro a hs
  refine go_end (hK92 _ _ ?_)
  refine wp_ret ?_
  replace hs : Slots a 52 [(2, .pointer (some (⟨g19, 0, none⟩ : Addr)))] := hs.kx
  refine ret1g (L := [(2, .pointer (some (⟨g19, 0, none⟩ : Addr)))]) (r1 := .cell 2 26) (v1 := .agg #[.slice Aa28 (a0.Words.take (mnn (a0.Words.length : Int) 30 : Int).toNat).length cc29, .slice Aa34 (a0.Sites.take (mnn (a0.Sites.length : Int) 30 : Int).toNat).length cc35, .slice Aa90 l89.length cc91]) hs (by kernel_rfl) ⟨_, (show lk 2 [(2, .pointer (some (⟨g19, 0, none⟩ : Addr)))] = some (.pointer (some (⟨g19, 0, none⟩ : Addr))) by kernel_rfl), lvb_row (hw.up 0) (by kernel_rfl) (by kernel_rfl) (by kernel_rfl)⟩ ?_
  refine ⟨_, rfl, ?_⟩
  refine hKR13 _ _ ?_
  intro a hs1; have hs : Slots a _ [(1, .slice A1 l1.length c1), (2, .pointer (some (⟨g2, 0, none⟩ : Addr))), (5, .bool t8), (17, .agg #[.slice Aa28 (a0.Words.take (mnn (a0.Words.length : Int) 30 : Int).toNat).length cc29, .slice Aa34 (a0.Sites.take (mnn (a0.Sites.length : Int) 30 : Int).toNat).length cc35, .slice Aa90 l89.length cc91])] := hs1.kx; clear hs1
  obtain ⟨⟨t96, t97⟩, hx98, H⟩ := bind_some H
  refine go_call hs (by rfl) (file_Put.calls (⟨a0.Words.take (mnn (a0.Words.length : Int) 30 : Int).toNat, a0.Sites.take (mnn (a0.Sites.length : Int) 30 : Int).toNat, l89⟩ : Sapi_Obj) Aa28 cc29 Aa34 cc35 Aa90 cc91 (t96, t97) _ (hc31 _ (hr0_1.old hw)) (hc37 _ (hr0_2.old hw)) (Rd.of_own (hw.up 1)) hx98) ?_
  rintro e wd101 ⟨Aa99, cc100, rfl, hw102⟩
  refine ⟨_, rfl, ?_⟩
  replace hw := hw.call hw102
  clear hs; intro a hs; replace hs := hs.rms [17]
  refine go_pvs 8 [18] [(6, .slice Aa99 t96.length cc100), (7, .int .i64 t97)] hs ?_; clear hs; intro a hs
  refine go_end (hK12 _ _ ?_)
  refine go_sk fun K104 hK104 => ?_
  refine go_run hs (by rfl) (x_blds (g := g2) (o := 0) (p := (⟨g2, 0, none⟩ : Addr)) (vs := [.slice A0_1 a0.Words.length c0_1, .slice A0_2 a0.Sites.length c0_2, .slice A0_3 a0.Syms.length c0_3]) (hw.up 11)) [2] ?_; clear hs; intro a hs
  refine go_inline_k hs (by rfl) (f := 22) (args := #[.agg #[.slice A0_1 a0.Words.length c0_1, .slice A0_2 a0.Sites.length c0_2, .slice A0_3 a0.Syms.length c0_3]]) (fun KR105 hKR105 => ?_)
  refine go_fn Tryd.func22 rfl Tryd.ntmps22 ?_; clear hs; intro a hs
  refine go_sk fun K106 hK106 => ?_
  obtain ⟨g107, wd108, hx109, hw⟩ := x_boxc (P := Tryd.prog) (elem := 26) (v := (Operand.tmp 0)) (ty := 0) (cs := [.slice A0_1 a0.Words.length c0_1, .slice A0_2 a0.Sites.length c0_2, .slice A0_3 a0.Syms.length c0_3]) hs hw (by kernel_rfl)
  refine go_run hs (by rfl) hx109 [0] ?_; clear hs; intro a hs
  obtain ⟨g111, wd112, hx113, hw⟩ := x_allocc (P := Tryd.prog) (elem := 26) (ty := 0) (z := .agg #[.slice none 0 0, .slice none 0 0, .slice none 0 0]) (cs := [.slice none 0 0, .slice none 0 0, .slice none 0 0]) hs hw (by kernel_rfl) (by kernel_rfl)
  refine go_run hs (by rfl) hx113 [] ?_; clear hs; intro a hs
  replace hw := St.own_nil hw 37 (eI .u32)
  replace hw := St.own_nil hw 3 (eI .i64)
  replace hw := St.own_nil hw 39 eSapi_Sym
  replace hw : St [] w0 wd112 [own 39 eSapi_Sym none 0 ([] : List Sapi_Sym), own 3 (eI .i64) none 0 ([] : List Int), own 37 (eI .u32) none 0 ([] : List Int), box g111 26 [.slice none ([] : List Int).length 0, .slice none ([] : List Int).length 0, .slice none ([] : List Sapi_Sym).length 0], box g107 26 [.slice A0_1 a0.Words.length c0_1, .slice A0_2 a0.Sites.length c0_2, .slice A0_3 a0.Syms.length c0_3], own 5 (eI .u8) Aa99 cc100 t96, box g19 26 [.slice Aa28 (a0.Words.take (mnn (a0.Words.length : Int) 30 : Int).toNat).length cc29, .slice Aa34 (a0.Sites.take (mnn (a0.Sites.length : Int) 30 : Int).toNat).length cc35, .slice Aa90 l89.length cc91], own 39 eSapi_Sym Aa90 cc91 l89, box g39 26 [.slice Aa28 (a0.Words.take (mnn (a0.Words.length : Int) 30 : Int).toNat).length cc29, .slice Aa34 (a0.Sites.take (mnn (a0.Sites.length : Int) 30 : Int).toNat).length cc35, .slice Aa90 l89.length cc91], own 39 eSapi_Sym none 0 ([] : List Sapi_Sym), own 3 (eI .i64) none 0 ([] : List Int), own 37 (eI .u32) none 0 ([] : List Int), own 39 eSapi_Sym none 0 ([] : List Sapi_Sym), own 3 (eI .i64) none 0 ([] : List Int), own 37 (eI .u32) none 0 ([] : List Int), box g15 26 [.slice A0_1 a0.Words.length c0_1, .slice A0_2 a0.Sites.length c0_2, .slice A0_3 a0.Syms.length c0_3], box g2 26 [.slice A0_1 a0.Words.length c0_1, .slice A0_2 a0.Sites.length c0_2, .slice A0_3 a0.Syms.length c0_3]] := hw
  refine go_end (hK106 _ _ ?_)
  refine go_seq_k fun K118 hK118 => ?_
  refine d_region [16] [(true, [0, 1, 2, 3, 4, 5, 6, 7, 8, 9, 10, 11, 12, 13, 14], 15), (true, [], 16)] [] (by kernel_rfl) (by kernel_rfl) (fun c a d v w h => by cases d <;> exact h) ?_
  refine d_seg ?_
  refine c_pvs [0] [1, 2, 3, 4, 5, 6, 7, 8, 9, 10, 11, 12, 13, 14] [] [(6, .pointer (some (((⟨g107, 0, none⟩ : Addr) : Addr).add 0)))] hs ?_; clear hs; intro a hs
  refine d_run hs (by rfl) (fun wx hbx => (x_bldD (g := g107) (o := 0) (p := ((⟨g107, 0, none⟩ : Addr) : Addr).add 0) (v := .slice A0_1 a0.Words.length c0_1) (hw.up 4) hbx)) [6] ?_; clear hs; intro a hs
  refine c_pvs [2] [3, 4, 5, 6, 7, 8, 9, 10, 11, 12, 13, 14] [] [(8, .pointer (some (((⟨g107, 0, none⟩ : Addr) : Addr).add 0)))] hs ?_; clear hs; intro a hs
  refine d_run hs (by rfl) (fun wx hbx => (x_bldD (g := g107) (o := 0) (p := ((⟨g107, 0, none⟩ : Addr) : Addr).add 0) (v := .slice A0_1 a0.Words.length c0_1) (hw.up 4) hbx)) [8] ?_; clear hs; intro a hs
  refine c_pvs [4, 5] [6, 7, 8, 9, 10, 11, 12, 13, 14] [9] [(11, .int .i64 (mnn (a0.Words.length : Int) 30))] hs ?_; clear hs; intro a hs
  obtain ⟨hp119, H⟩ := ite_only H
  obtain ⟨Aa120, cc121, hx122, hc123⟩ := w_hi (P := Tryd.prog) (ty := 22) (E := (eI .u32)) (T := 37) (t := 22) (x := (Operand.tmp 7)) (y := (Operand.tmp 11)) (k := .i64) hs (by kernel_rfl) (by kernel_rfl) (hr0_1.old hw) (by kernel_rfl) (by kernel_rfl) hp119.1 hp119.2
  refine d_run hs (by rfl) (fun wx hbx => (hx122 wx)) [7, 11] ?_; clear hs; intro a hs
  refine c_pvs [7] [8, 9, 10, 11, 12, 13, 14] [] [(13, .pointer (some (((⟨g107, 0, none⟩ : Addr) : Addr).add 1)))] hs ?_; clear hs; intro a hs
  refine d_run hs (by rfl) (fun wx hbx => (x_bldD (g := g107) (o := 1) (p := ((⟨g107, 0, none⟩ : Addr) : Addr).add 1) (v := .slice A0_2 a0.Sites.length c0_2) (hw.up 4) hbx)) [13] ?_; clear hs; intro a hs
  refine c_pvs [9] [10, 11, 12, 13, 14] [] [(15, .pointer (some (((⟨g107, 0, none⟩ : Addr) : Addr).add 1)))] hs ?_; clear hs; intro a hs
  refine d_run hs (by rfl) (fun wx hbx => (x_bldD (g := g107) (o := 1) (p := ((⟨g107, 0, none⟩ : Addr) : Addr).add 1) (v := .slice A0_2 a0.Sites.length c0_2) (hw.up 4) hbx)) [15] ?_; clear hs; intro a hs
  refine c_pvs [11, 12] [13, 14] [16] [(18, .int .i64 (mnn (a0.Sites.length : Int) 30))] hs ?_; clear hs; intro a hs
  obtain ⟨hp125, H⟩ := ite_only H
  obtain ⟨Aa126, cc127, hx128, hc129⟩ := w_hi (P := Tryd.prog) (ty := 23) (E := (eI .i64)) (T := 3) (t := 23) (x := (Operand.tmp 14)) (y := (Operand.tmp 18)) (k := .i64) hs (by kernel_rfl) (by kernel_rfl) (hr0_2.old hw) (by kernel_rfl) (by kernel_rfl) hp125.1 hp125.2
  refine d_run hs (by rfl) (fun wx hbx => (hx128 wx)) [14, 18] ?_; clear hs; intro a hs
  refine c_pvs [14] [] [12, 19] [(20, .agg #[.slice Aa120 (a0.Words.take (mnn (a0.Words.length : Int) 30 : Int).toNat).length cc121, .slice Aa126 (a0.Sites.take (mnn (a0.Sites.length : Int) 30 : Int).toNat).length cc127, .slice none 0 0])] hs ?_; clear hs; intro a hs
  refine c_end ?_
  intro wq hbq
  replace hw := hw.behind hbq
  have hbc := Below.refl wq.heap.size wq
  obtain ⟨g131, wd132, hx133, hwn⟩ := x_allocc (P := Tryd.prog) (elem := 26) (ty := 0) (z := .agg #[.slice none 0 0, .slice none 0 0, .slice none 0 0]) (cs := [.slice none 0 0, .slice none 0 0, .slice none 0 0]) hs (nil_of hw) (by kernel_rfl) (by kernel_rfl)
  replace hbc := hwn.below
  replace hw := hw.call hwn
  clear hwn
  refine p_run hs (by rfl) hx133 [] ?_; clear hs; intro a hs
  replace hw := St.own_nil hw 37 (eI .u32)
  replace hw := St.own_nil hw 3 (eI .i64)
  replace hw := St.own_nil hw 39 eSapi_Sym
  replace hw : St [] w0 wd132 [own 39 eSapi_Sym none 0 ([] : List Sapi_Sym), own 3 (eI .i64) none 0 ([] : List Int), own 37 (eI .u32) none 0 ([] : List Int), box g131 26 [.slice none ([] : List Int).length 0, .slice none ([] : List Int).length 0, .slice none ([] : List Sapi_Sym).length 0], own 39 eSapi_Sym none 0 ([] : List Sapi_Sym), own 3 (eI .i64) none 0 ([] : List Int), own 37 (eI .u32) none 0 ([] : List Int), box g111 26 [.slice none ([] : List Int).length 0, .slice none ([] : List Int).length 0, .slice none ([] : List Sapi_Sym).length 0], box g107 26 [.slice A0_1 a0.Words.length c0_1, .slice A0_2 a0.Sites.length c0_2, .slice A0_3 a0.Syms.length c0_3], own 5 (eI .u8) Aa99 cc100 t96, box g19 26 [.slice Aa28 (a0.Words.take (mnn (a0.Words.length : Int) 30 : Int).toNat).length cc29, .slice Aa34 (a0.Sites.take (mnn (a0.Sites.length : Int) 30 : Int).toNat).length cc35, .slice Aa90 l89.length cc91], own 39 eSapi_Sym Aa90 cc91 l89, box g39 26 [.slice Aa28 (a0.Words.take (mnn (a0.Words.length : Int) 30 : Int).toNat).length cc29, .slice Aa34 (a0.Sites.take (mnn (a0.Sites.length : Int) 30 : Int).toNat).length cc35, .slice Aa90 l89.length cc91], own 39 eSapi_Sym none 0 ([] : List Sapi_Sym), own 3 (eI .i64) none 0 ([] : List Int), own 37 (eI .u32) none 0 ([] : List Int), own 39 eSapi_Sym none 0 ([] : List Sapi_Sym), own 3 (eI .i64) none 0 ([] : List Int), own 37 (eI .u32) none 0 ([] : List Int), box g15 26 [.slice A0_1 a0.Words.length c0_1, .slice A0_2 a0.Sites.length c0_2, .slice A0_3 a0.Syms.length c0_3], box g2 26 [.slice A0_1 a0.Words.length c0_1, .slice A0_2 a0.Sites.length c0_2, .slice A0_3 a0.Syms.length c0_3]] := hw
  refine c_done ⟨.inr (bn_of hbq hbc), ?_⟩
  clear hbc hbq
  refine d_seg ?_
  refine c_end ?_
  intro wq hbq
  replace hw := hw.behind hbq
  replace hw := hw.up 3
  obtain ⟨wd138, hx139, hw⟩ := x_bput (P := Tryd.prog) (ty := 0) (t := 26) (y := (Operand.tmp 3)) (z := (Operand.tmp 20)) (o := 0) (p := (⟨g131, 0, none⟩ : Addr)) (v := .agg #[.slice Aa120 (a0.Words.take (mnn (a0.Words.length : Int) 30 : Int).toNat).length cc121, .slice Aa126 (a0.Sites.take (mnn (a0.Sites.length : Int) 30 : Int).toNat).length cc127, .slice none 0 0]) (vs := [.slice Aa120 (a0.Words.take (mnn (a0.Words.length : Int) 30 : Int).toNat).length cc121, .slice Aa126 (a0.Sites.take (mnn (a0.Sites.length : Int) 30 : Int).toNat).length cc127, .slice none 0 0]) (cs' := [.slice Aa120 (a0.Words.take (mnn (a0.Words.length : Int) 30 : Int).toNat).length cc121, .slice Aa126 (a0.Sites.take (mnn (a0.Sites.length : Int) 30 : Int).toNat).length cc127, .slice none 0 0]) hs hw (by kernel_rfl) rfl (by kernel_rfl) rfl (by kernel_rfl) (by kernel_rfl) (by simp [Value.oneCell']) rfl
  refine p_unit hs (by rfl) hx139 [20] ?_; clear hs; intro a hs
  replace hw := St.own_nil hw 39 eSapi_Sym
  replace hw : St [] w0 wd138 [own 39 eSapi_Sym none 0 ([] : List Sapi_Sym), box g131 26 [.slice Aa120 (a0.Words.take (mnn (a0.Words.length : Int) 30 : Int).toNat).length cc121, .slice Aa126 (a0.Sites.take (mnn (a0.Sites.length : Int) 30 : Int).toNat).length cc127, .slice none ([] : List Sapi_Sym).length 0], own 39 eSapi_Sym none 0 ([] : List Sapi_Sym), own 3 (eI .i64) none 0 ([] : List Int), own 37 (eI .u32) none 0 ([] : List Int), own 39 eSapi_Sym none 0 ([] : List Sapi_Sym), own 3 (eI .i64) none 0 ([] : List Int), own 37 (eI .u32) none 0 ([] : List Int), box g111 26 [.slice none ([] : List Int).length 0, .slice none ([] : List Int).length 0, .slice none ([] : List Sapi_Sym).length 0], box g107 26 [.slice A0_1 a0.Words.length c0_1, .slice A0_2 a0.Sites.length c0_2, .slice A0_3 a0.Syms.length c0_3], own 5 (eI .u8) Aa99 cc100 t96, box g19 26 [.slice Aa28 (a0.Words.take (mnn (a0.Words.length : Int) 30 : Int).toNat).length cc29, .slice Aa34 (a0.Sites.take (mnn (a0.Sites.length : Int) 30 : Int).toNat).length cc35, .slice Aa90 l89.length cc91], own 39 eSapi_Sym Aa90 cc91 l89, box g39 26 [.slice Aa28 (a0.Words.take (mnn (a0.Words.length : Int) 30 : Int).toNat).length cc29, .slice Aa34 (a0.Sites.take (mnn (a0.Sites.length : Int) 30 : Int).toNat).length cc35, .slice Aa90 l89.length cc91], own 39 eSapi_Sym none 0 ([] : List Sapi_Sym), own 3 (eI .i64) none 0 ([] : List Int), own 37 (eI .u32) none 0 ([] : List Int), own 39 eSapi_Sym none 0 ([] : List Sapi_Sym), own 3 (eI .i64) none 0 ([] : List Int), own 37 (eI .u32) none 0 ([] : List Int), box g15 26 [.slice A0_1 a0.Words.length c0_1, .slice A0_2 a0.Sites.length c0_2, .slice A0_3 a0.Syms.length c0_3], box g2 26 [.slice A0_1 a0.Words.length c0_1, .slice A0_2 a0.Sites.length c0_2, .slice A0_3 a0.Syms.length c0_3]] := hw
  refine c_done ⟨.inl (by kernel_rfl), ?_⟩
  clear hbq
  refine d_last ?_
  refine c_end ?_
  intro wq hbq
  replace hw := hw.behind hbq
  refine hK118 _ _ ?_
  refine go_seq_k fun K141 hK141 => ?_
  refine go_sp [] [(4, .int .i64 0)] hs ?_; clear hs; intro a hs
  refine wp_block ?_
  obtain ⟨e143, hl143, HX143⟩ := bind_some H
  have hJ6 : ∀ (Aa182 : Option Addr) (cc183 : Nat) (l181 : List Sapi_Sym) (a : Act) (w : World), Slots a 52 [(2, .pointer (some (⟨g111, 0, none⟩ : Addr))), (3, .pointer (some (⟨g131, 0, none⟩ : Addr)))] → St [] w0 w [own 39 eSapi_Sym Aa182 cc183 l181, box g131 26 [.slice Aa120 (a0.Words.take (mnn (a0.Words.length : Int) 30 : Int).toNat).length cc121, .slice Aa126 (a0.Sites.take (mnn (a0.Sites.length : Int) 30 : Int).toNat).length cc127, .slice Aa182 l181.length cc183], own 39 eSapi_Sym none 0 ([] : List Sapi_Sym), own 3 (eI .i64) none 0 ([] : List Int), own 37 (eI .u32) none 0 ([] : List Int), own 39 eSapi_Sym none 0 ([] : List Sapi_Sym), own 3 (eI .i64) none 0 ([] : List Int), own 37 (eI .u32) none 0 ([] : List Int), box g111 26 [.slice none ([] : List Int).length 0, .slice none ([] : List Int).length 0, .slice none ([] : List Sapi_Sym).length 0], box g107 26 [.slice A0_1 a0.Words.length c0_1, .slice A0_2 a0.Sites.length c0_2, .slice A0_3 a0.Syms.length c0_3], own 5 (eI .u8) Aa99 cc100 t96, box g19 26 [.slice Aa28 (a0.Words.take (mnn (a0.Words.length : Int) 30 : Int).toNat).length cc29, .slice Aa34 (a0.Sites.take (mnn (a0.Sites.length : Int) 30 : Int).toNat).length cc35, .slice Aa90 l89.length cc91], own 39 eSapi_Sym Aa90 cc91 l89, box g39 26 [.slice Aa28 (a0.Words.take (mnn (a0.Words.length : Int) 30 : Int).toNat).length cc29, .slice Aa34 (a0.Sites.take (mnn (a0.Sites.length : Int) 30 : Int).toNat).length cc35, .slice Aa90 l89.length cc91], own 39 eSapi_Sym none 0 ([] : List Sapi_Sym), own 3 (eI .i64) none 0 ([] : List Int), own 37 (eI .u32) none 0 ([] : List Int), own 39 eSapi_Sym none 0 ([] : List Sapi_Sym), own 3 (eI .i64) none 0 ([] : List Int), own 37 (eI .u32) none 0 ([] : List Int), box g15 26 [.slice A0_1 a0.Words.length c0_1, .slice A0_2 a0.Sites.length c0_2, .slice A0_3 a0.Syms.length c0_3], box g2 26 [.slice A0_1 a0.Words.length c0_1, .slice A0_2 a0.Sites.length c0_2, .slice A0_3 a0.Syms.length c0_3]] → rivetlaw10_FileAll.j6 a0 l1 t8 t96 t97 l181 = some r → K141 a w := by
   intro Aa182 cc183 l181 a w hs hw H
   unfold rivetlaw10_FileAll.j6 at H
   refine hK141 _ _ ?_
   refine go_sk fun K184 hK184 => ?_
   refine go_run hs (by rfl) (x_blds (g := g131) (o := 0) (p := (⟨g131, 0, none⟩ : Addr)) (vs := [.slice Aa120 (a0.Words.take (mnn (a0.Words.length : Int) 30 : Int).toNat).length cc121, .slice Aa126 (a0.Sites.take (mnn (a0.Sites.length : Int) 30 : Int).toNat).length cc127, .slice Aa182 l181.length cc183]) (hw.up 1)) [3] ?_; clear hs; intro a hs
   replace hw := hw.up 8
   obtain ⟨wd185, hx186, hw⟩ := x_bput (P := Tryd.prog) (ty := 0) (t := 26) (y := (Operand.tmp 2)) (z := (Operand.tmp 51)) (o := 0) (p := (⟨g111, 0, none⟩ : Addr)) (v := .agg #[.slice Aa120 (a0.Words.take (mnn (a0.Words.length : Int) 30 : Int).toNat).length cc121, .slice Aa126 (a0.Sites.take (mnn (a0.Sites.length : Int) 30 : Int).toNat).length cc127, .slice Aa182 l181.length cc183]) (vs := [.slice Aa120 (a0.Words.take (mnn (a0.Words.length : Int) 30 : Int).toNat).length cc121, .slice Aa126 (a0.Sites.take (mnn (a0.Sites.length : Int) 30 : Int).toNat).length cc127, .slice Aa182 l181.length cc183]) (cs' := [.slice Aa120 (a0.Words.take (mnn (a0.Words.length : Int) 30 : Int).toNat).length cc121, .slice Aa126 (a0.Sites.take (mnn (a0.Sites.length : Int) 30 : Int).toNat).length cc127, .slice Aa182 l181.length cc183]) hs hw (by kernel_rfl) rfl (by kernel_rfl) rfl (by kernel_rfl) (by kernel_rfl) (by simp [Value.oneCell']) rfl
   refine go_unit hs (by rfl) hx186 [51] ?_; clear hs; intro a hs
   refine go_end (hK184 _ _ ?_)
   refine wp_ret ?_
   replace hs : Slots a 52 [(2, .pointer (some (⟨g111, 0, none⟩ : Addr)))] := hs.kx
   refine ret1g (L := [(2, .pointer (some (⟨g111, 0, none⟩ : Addr)))]) (r1 := .cell 2 26) (v1 := .agg #[.slice Aa120 (a0.Words.take (mnn (a0.Words.length : Int) 30 : Int).toNat).length cc121, .slice Aa126 (a0.Sites.take (mnn (a0.Sites.length : Int) 30 : Int).toNat).length cc127, .slice Aa182 l181.length cc183]) hs (by kernel_rfl) ⟨_, (show lk 2 [(2, .pointer (some (⟨g111, 0, none⟩ : Addr)))] = some (.pointer (some (⟨g111, 0, none⟩ : Addr))) by kernel_rfl), lvb_row (hw.up 0) (by kernel_rfl) (by kernel_rfl) (by kernel_rfl)⟩ ?_
   refine ⟨_, rfl, ?_⟩
   refine hKR105 _ _ ?_
   intro a hs1; have hs : Slots a _ [(1, .slice A1 l1.length c1), (5, .bool t8), (6, .slice Aa99 t96.length cc100), (7, .int .i64 t97), (23, .agg #[.slice Aa120 (a0.Words.take (mnn (a0.Words.length : Int) 30 : Int).toNat).length cc121, .slice Aa126 (a0.Sites.take (mnn (a0.Sites.length : Int) 30 : Int).toNat).length cc127, .slice Aa182 l181.length cc183])] := hs1.kx; clear hs1
   obtain ⟨⟨t188, t189⟩, hx190, H⟩ := bind_some H
   refine go_call hs (by rfl) (rivetref10_Put.calls (⟨a0.Words.take (mnn (a0.Words.length : Int) 30 : Int).toNat, a0.Sites.take (mnn (a0.Sites.length : Int) 30 : Int).toNat, l181⟩ : Sapi_Obj) Aa120 cc121 Aa126 cc127 Aa182 cc183 (t188, t189) _ (hc123 _ (hr0_1.old hw)) (hc129 _ (hr0_2.old hw)) (Rd.of_own (hw.up 1)) hx190) ?_
   rintro e wd193 ⟨Aa191, cc192, rfl, hw194⟩
   refine ⟨_, rfl, ?_⟩
   replace hw := hw.call hw194
   clear hs; intro a hs; replace hs := hs.rms [23]
   refine go_pvs 8 [24] [(8, .slice Aa191 t188.length cc192), (9, .int .i64 t189)] hs ?_; clear hs; intro a hs
   refine go_end (hK104 _ _ ?_)
   refine go_sk fun K196 hK196 => ?_
   refine go_pvs 1 [] [(28, .slice A1 l1.length c1)] hs ?_; clear hs; intro a hs
   refine go_inline_k hs (by rfl) (f := 25) (args := #[.slice A1 l1.length c1]) (fun KR197 hKR197 => ?_)
   refine go_fn Tryd.func25 rfl Tryd.ntmps25 ?_; clear hs; intro a hs
   refine go_sp [] [] hs ?_; clear hs; intro a hs
   refine go_sk fun K199 hK199 => ?_
   refine go_pvs 4 [0] [(3, .slice A1 l1.length c1), (6, .int .i64 (mnn (l1.length : Int) 400))] hs ?_; clear hs; intro a hs
   obtain ⟨hp200, H⟩ := ite_only H
   obtain ⟨Aa201, cc202, hx203, hc204⟩ := c_hi (P := Tryd.prog) (ty := 32) (E := (eI .u8)) (T := 5) (t := 32) (x := (Operand.tmp 3)) (y := (Operand.tmp 6)) (k := .i64) hs (by kernel_rfl) (by kernel_rfl) (hr1.old hw) (by kernel_rfl) (by kernel_rfl) hp200.1 hp200.2
   refine go_run hs (by rfl) hx203 [3, 6] ?_; clear hs; intro a hs
   refine go_pvs 6 [7] [(2, .slice Aa201 (l1.take (mnn (l1.length : Int) 400 : Int).toNat).length cc202)] hs ?_; clear hs; intro a hs
   refine go_end (hK199 _ _ ?_)
   refine wp_ret ?_
   refine ret1 (t := 2) (v := .slice Aa201 (l1.take (mnn (l1.length : Int) 400 : Int).toNat).length cc202) hs (by kernel_rfl) (by kernel_rfl) ?_
   refine ⟨_, rfl, ?_⟩
   refine hKR197 _ _ ?_
   intro a hs1; have hs : Slots a _ [(1, .slice A1 l1.length c1), (5, .bool t8), (6, .slice Aa99 t96.length cc100), (7, .int .i64 t97), (8, .slice Aa191 t188.length cc192), (9, .int .i64 t189), (29, .slice Aa201 (l1.take (mnn (l1.length : Int) 400 : Int).toNat).length cc202)] := hs1.kx; clear hs1
   obtain ⟨⟨t207, t208⟩, hx209, H⟩ := bind_some H
   refine go_call hs (by rfl) (file_Take.calls Aa201 cc202 (l1.take (mnn (l1.length : Int) 400 : Int).toNat) (t207, t208) _ (hc204 _ (hr1.old hw)) hx209) ?_
   rintro e wd216 ⟨Aa210, cc211, Aa212, cc213, Aa214, cc215, rfl, hw217⟩
   refine ⟨_, rfl, ?_⟩
   replace hw := hw.call hw217
   clear hs; intro a hs; replace hs := hs.rms [29]
   refine go_pvs 6 [30] [(31, .agg #[.slice Aa210 t207.Words.length cc211, .slice Aa212 t207.Sites.length cc213, .slice Aa214 t207.Syms.length cc215]), (32, .int .i64 t208)] hs ?_; clear hs; intro a hs
   obtain ⟨g221, wd222, hx223, hw⟩ := x_allocc (P := Tryd.prog) (elem := 26) (ty := 0) (z := .agg #[.slice none 0 0, .slice none 0 0, .slice none 0 0]) (cs := [.slice none 0 0, .slice none 0 0, .slice none 0 0]) hs hw (by kernel_rfl) (by kernel_rfl)
   refine go_run hs (by rfl) hx223 [] ?_; clear hs; intro a hs
   replace hw := St.own_nil hw 37 (eI .u32)
   replace hw := St.own_nil hw 3 (eI .i64)
   replace hw := St.own_nil hw 39 eSapi_Sym
   replace hw : St [] w0 wd222 [own 39 eSapi_Sym none 0 ([] : List Sapi_Sym), own 3 (eI .i64) none 0 ([] : List Int), own 37 (eI .u32) none 0 ([] : List Int), box g221 26 [.slice none ([] : List Int).length 0, .slice none ([] : List Int).length 0, .slice none ([] : List Sapi_Sym).length 0], own 37 (eI .u32) Aa210 cc211 t207.Words, own 3 (eI .i64) Aa212 cc213 t207.Sites, own 39 eSapi_Sym Aa214 cc215 t207.Syms, own 5 (eI .u8) Aa191 cc192 t188, box g111 26 [.slice Aa120 (a0.Words.take (mnn (a0.Words.length : Int) 30 : Int).toNat).length cc121, .slice Aa126 (a0.Sites.take (mnn (a0.Sites.length : Int) 30 : Int).toNat).length cc127, .slice Aa182 l181.length cc183], own 39 eSapi_Sym Aa182 cc183 l181, box g131 26 [.slice Aa120 (a0.Words.take (mnn (a0.Words.length : Int) 30 : Int).toNat).length cc121, .slice Aa126 (a0.Sites.take (mnn (a0.Sites.length : Int) 30 : Int).toNat).length cc127, .slice Aa182 l181.length cc183], own 39 eSapi_Sym none 0 ([] : List Sapi_Sym), own 3 (eI .i64) none 0 ([] : List Int), own 37 (eI .u32) none 0 ([] : List Int), own 39 eSapi_Sym none 0 ([] : List Sapi_Sym), own 3 (eI .i64) none 0 ([] : List Int), own 37 (eI .u32) none 0 ([] : List Int), box g107 26 [.slice A0_1 a0.Words.length c0_1, .slice A0_2 a0.Sites.length c0_2, .slice A0_3 a0.Syms.length c0_3], own 5 (eI .u8) Aa99 cc100 t96, box g19 26 [.slice Aa28 (a0.Words.take (mnn (a0.Words.length : Int) 30 : Int).toNat).length cc29, .slice Aa34 (a0.Sites.take (mnn (a0.Sites.length : Int) 30 : Int).toNat).length cc35, .slice Aa90 l89.length cc91], own 39 eSapi_Sym Aa90 cc91 l89, box g39 26 [.slice Aa28 (a0.Words.take (mnn (a0.Words.length : Int) 30 : Int).toNat).length cc29, .slice Aa34 (a0.Sites.take (mnn (a0.Sites.length : Int) 30 : Int).toNat).length cc35, .slice Aa90 l89.length cc91], own 39 eSapi_Sym none 0 ([] : List Sapi_Sym), own 3 (eI .i64) none 0 ([] : List Int), own 37 (eI .u32) none 0 ([] : List Int), own 39 eSapi_Sym none 0 ([] : List Sapi_Sym), own 3 (eI .i64) none 0 ([] : List Int), own 37 (eI .u32) none 0 ([] : List Int), box g15 26 [.slice A0_1 a0.Words.length c0_1, .slice A0_2 a0.Sites.length c0_2, .slice A0_3 a0.Syms.length c0_3], box g2 26 [.slice A0_1 a0.Words.length c0_1, .slice A0_2 a0.Sites.length c0_2, .slice A0_3 a0.Syms.length c0_3]] := hw
   replace hw := hw.up 3
   obtain ⟨wd228, hx229, hw⟩ := x_bput (P := Tryd.prog) (ty := 0) (t := 26) (y := (Operand.tmp 10)) (z := (Operand.tmp 31)) (o := 0) (p := (⟨g221, 0, none⟩ : Addr)) (v := .agg #[.slice Aa210 t207.Words.length cc211, .slice Aa212 t207.Sites.length cc213, .slice Aa214 t207.Syms.length cc215]) (vs := [.slice Aa210 t207.Words.length cc211, .slice Aa212 t207.Sites.length cc213, .slice Aa214 t207.Syms.length cc215]) (cs' := [.slice Aa210 t207.Words.length cc211, .slice Aa212 t207.Sites.length cc213, .slice Aa214 t207.Syms.length cc215]) hs hw (by kernel_rfl) rfl (by kernel_rfl) rfl (by kernel_rfl) (by kernel_rfl) (by simp [Value.oneCell']) rfl
   refine go_unit hs (by rfl) hx229 [31] ?_; clear hs; intro a hs
   refine go_pvs 9 [32] [(11, .int .i64 t208)] hs ?_; clear hs; intro a hs
   refine go_end (hK196 _ _ ?_)
   refine go_sk fun K230 hK230 => ?_
   refine go_pvs 1 [1] [(34, .slice A1 l1.length c1)] hs ?_; clear hs; intro a hs
   refine go_inline_k hs (by rfl) (f := 25) (args := #[.slice A1 l1.length c1]) (fun KR231 hKR231 => ?_)
   refine go_fn Tryd.func25 rfl Tryd.ntmps25 ?_; clear hs; intro a hs
   refine go_sp [] [] hs ?_; clear hs; intro a hs
   refine go_sk fun K233 hK233 => ?_
   refine go_pvs 4 [0] [(3, .slice A1 l1.length c1), (6, .int .i64 (mnn (l1.length : Int) 400))] hs ?_; clear hs; intro a hs
   obtain ⟨hp234, H⟩ := ite_only H
   obtain ⟨Aa235, cc236, hx237, hc238⟩ := c_hi (P := Tryd.prog) (ty := 32) (E := (eI .u8)) (T := 5) (t := 32) (x := (Operand.tmp 3)) (y := (Operand.tmp 6)) (k := .i64) hs (by kernel_rfl) (by kernel_rfl) (hr1.old hw) (by kernel_rfl) (by kernel_rfl) hp234.1 hp234.2
   refine go_run hs (by rfl) hx237 [3, 6] ?_; clear hs; intro a hs
   refine go_pvs 6 [7] [(2, .slice Aa235 (l1.take (mnn (l1.length : Int) 400 : Int).toNat).length cc236)] hs ?_; clear hs; intro a hs
   refine go_end (hK233 _ _ ?_)
   refine wp_ret ?_
   refine ret1 (t := 2) (v := .slice Aa235 (l1.take (mnn (l1.length : Int) 400 : Int).toNat).length cc236) hs (by kernel_rfl) (by kernel_rfl) ?_
   refine ⟨_, rfl, ?_⟩
   refine hKR231 _ _ ?_
   intro a hs1; have hs : Slots a _ [(5, .bool t8), (6, .slice Aa99 t96.length cc100), (7, .int .i64 t97), (8, .slice Aa191 t188.length cc192), (9, .int .i64 t189), (10, .pointer (some (⟨g221, 0, none⟩ : Addr))), (11, .int .i64 t208), (35, .slice Aa235 (l1.take (mnn (l1.length : Int) 400 : Int).toNat).length cc236)] := hs1.kx; clear hs1
   obtain ⟨⟨t241, t242⟩, hx243, H⟩ := bind_some H
   refine go_call hs (by rfl) (rivetref10_Take.calls Aa235 cc236 (l1.take (mnn (l1.length : Int) 400 : Int).toNat) (t241, t242) _ (hc238 _ (hr1.old hw)) hx243) ?_
   rintro e wd250 ⟨Aa244, cc245, Aa246, cc247, Aa248, cc249, rfl, hw251⟩
   refine ⟨_, rfl, ?_⟩
   replace hw := hw.call hw251
   clear hs; intro a hs; replace hs := hs.rms [35]
   refine go_pvs 6 [36] [(37, .agg #[.slice Aa244 t241.Words.length cc245, .slice Aa246 t241.Sites.length cc247, .slice Aa248 t241.Syms.length cc249]), (38, .int .i64 t242)] hs ?_; clear hs; intro a hs
   obtain ⟨g255, wd256, hx257, hw⟩ := x_allocc (P := Tryd.prog) (elem := 26) (ty := 0) (z := .agg #[.slice none 0 0, .slice none 0 0, .slice none 0 0]) (cs := [.slice none 0 0, .slice none 0 0, .slice none 0 0]) hs hw (by kernel_rfl) (by kernel_rfl)
   refine go_run hs (by rfl) hx257 [] ?_; clear hs; intro a hs
   replace hw := St.own_nil hw 37 (eI .u32)
   replace hw := St.own_nil hw 3 (eI .i64)
   replace hw := St.own_nil hw 39 eSapi_Sym
   replace hw : St [] w0 wd256 [own 39 eSapi_Sym none 0 ([] : List Sapi_Sym), own 3 (eI .i64) none 0 ([] : List Int), own 37 (eI .u32) none 0 ([] : List Int), box g255 26 [.slice none ([] : List Int).length 0, .slice none ([] : List Int).length 0, .slice none ([] : List Sapi_Sym).length 0], own 37 (eI .u32) Aa244 cc245 t241.Words, own 3 (eI .i64) Aa246 cc247 t241.Sites, own 39 eSapi_Sym Aa248 cc249 t241.Syms, box g221 26 [.slice Aa210 t207.Words.length cc211, .slice Aa212 t207.Sites.length cc213, .slice Aa214 t207.Syms.length cc215], own 39 eSapi_Sym none 0 ([] : List Sapi_Sym), own 3 (eI .i64) none 0 ([] : List Int), own 37 (eI .u32) none 0 ([] : List Int), own 37 (eI .u32) Aa210 cc211 t207.Words, own 3 (eI .i64) Aa212 cc213 t207.Sites, own 39 eSapi_Sym Aa214 cc215 t207.Syms, own 5 (eI .u8) Aa191 cc192 t188, box g111 26 [.slice Aa120 (a0.Words.take (mnn (a0.Words.length : Int) 30 : Int).toNat).length cc121, .slice Aa126 (a0.Sites.take (mnn (a0.Sites.length : Int) 30 : Int).toNat).length cc127, .slice Aa182 l181.length cc183], own 39 eSapi_Sym Aa182 cc183 l181, box g131 26 [.slice Aa120 (a0.Words.take (mnn (a0.Words.length : Int) 30 : Int).toNat).length cc121, .slice Aa126 (a0.Sites.take (mnn (a0.Sites.length : Int) 30 : Int).toNat).length cc127, .slice Aa182 l181.length cc183], own 39 eSapi_Sym none 0 ([] : List Sapi_Sym), own 3 (eI .i64) none 0 ([] : List Int), own 37 (eI .u32) none 0 ([] : List Int), own 39 eSapi_Sym none 0 ([] : List Sapi_Sym), own 3 (eI .i64) none 0 ([] : List Int), own 37 (eI .u32) none 0 ([] : List Int), box g107 26 [.slice A0_1 a0.Words.length c0_1, .slice A0_2 a0.Sites.length c0_2, .slice A0_3 a0.Syms.length c0_3], own 5 (eI .u8) Aa99 cc100 t96, box g19 26 [.slice Aa28 (a0.Words.take (mnn (a0.Words.length : Int) 30 : Int).toNat).length cc29, .slice Aa34 (a0.Sites.take (mnn (a0.Sites.length : Int) 30 : Int).toNat).length cc35, .slice Aa90 l89.length cc91], own 39 eSapi_Sym Aa90 cc91 l89, box g39 26 [.slice Aa28 (a0.Words.take (mnn (a0.Words.length : Int) 30 : Int).toNat).length cc29, .slice Aa34 (a0.Sites.take (mnn (a0.Sites.length : Int) 30 : Int).toNat).length cc35, .slice Aa90 l89.length cc91], own 39 eSapi_Sym none 0 ([] : List Sapi_Sym), own 3 (eI .i64) none 0 ([] : List Int), own 37 (eI .u32) none 0 ([] : List Int), own 39 eSapi_Sym none 0 ([] : List Sapi_Sym), own 3 (eI .i64) none 0 ([] : List Int), own 37 (eI .u32) none 0 ([] : List Int), box g15 26 [.slice A0_1 a0.Words.length c0_1, .slice A0_2 a0.Sites.length c0_2, .slice A0_3 a0.Syms.length c0_3], box g2 26 [.slice A0_1 a0.Words.length c0_1, .slice A0_2 a0.Sites.length c0_2, .slice A0_3 a0.Syms.length c0_3]] := hw
   replace hw := hw.up 3
   obtain ⟨wd262, hx263, hw⟩ := x_bput (P := Tryd.prog) (ty := 0) (t := 26) (y := (Operand.tmp 12)) (z := (Operand.tmp 37)) (o := 0) (p := (⟨g255, 0, none⟩ : Addr)) (v := .agg #[.slice Aa244 t241.Words.length cc245, .slice Aa246 t241.Sites.length cc247, .slice Aa248 t241.Syms.length cc249]) (vs := [.slice Aa244 t241.Words.length cc245, .slice Aa246 t241.Sites.length cc247, .slice Aa248 t241.Syms.length cc249]) (cs' := [.slice Aa244 t241.Words.length cc245, .slice Aa246 t241.Sites.length cc247, .slice Aa248 t241.Syms.length cc249]) hs hw (by kernel_rfl) rfl (by kernel_rfl) rfl (by kernel_rfl) (by kernel_rfl) (by simp [Value.oneCell']) rfl
   refine go_unit hs (by rfl) hx263 [37] ?_; clear hs; intro a hs
   refine go_pvs 9 [38] [(13, .int .i64 t242)] hs ?_; clear hs; intro a hs
   refine go_end (hK230 _ _ ?_)
   refine go_seq_k fun K264 hK264 => ?_
   have hJ7 : ∀ (v274 : Bool) (a : Act) (w : World), Slots a 62 [(4, .bool v274)] → St [] w0 w [box g255 26 [.slice Aa244 t241.Words.length cc245, .slice Aa246 t241.Sites.length cc247, .slice Aa248 t241.Syms.length cc249], own 39 eSapi_Sym none 0 ([] : List Sapi_Sym), own 3 (eI .i64) none 0 ([] : List Int), own 37 (eI .u32) none 0 ([] : List Int), own 37 (eI .u32) Aa244 cc245 t241.Words, own 3 (eI .i64) Aa246 cc247 t241.Sites, own 39 eSapi_Sym Aa248 cc249 t241.Syms, box g221 26 [.slice Aa210 t207.Words.length cc211, .slice Aa212 t207.Sites.length cc213, .slice Aa214 t207.Syms.length cc215], own 39 eSapi_Sym none 0 ([] : List Sapi_Sym), own 3 (eI .i64) none 0 ([] : List Int), own 37 (eI .u32) none 0 ([] : List Int), own 37 (eI .u32) Aa210 cc211 t207.Words, own 3 (eI .i64) Aa212 cc213 t207.Sites, own 39 eSapi_Sym Aa214 cc215 t207.Syms, own 5 (eI .u8) Aa191 cc192 t188, box g111 26 [.slice Aa120 (a0.Words.take (mnn (a0.Words.length : Int) 30 : Int).toNat).length cc121, .slice Aa126 (a0.Sites.take (mnn (a0.Sites.length : Int) 30 : Int).toNat).length cc127, .slice Aa182 l181.length cc183], own 39 eSapi_Sym Aa182 cc183 l181, box g131 26 [.slice Aa120 (a0.Words.take (mnn (a0.Words.length : Int) 30 : Int).toNat).length cc121, .slice Aa126 (a0.Sites.take (mnn (a0.Sites.length : Int) 30 : Int).toNat).length cc127, .slice Aa182 l181.length cc183], own 39 eSapi_Sym none 0 ([] : List Sapi_Sym), own 3 (eI .i64) none 0 ([] : List Int), own 37 (eI .u32) none 0 ([] : List Int), own 39 eSapi_Sym none 0 ([] : List Sapi_Sym), own 3 (eI .i64) none 0 ([] : List Int), own 37 (eI .u32) none 0 ([] : List Int), box g107 26 [.slice A0_1 a0.Words.length c0_1, .slice A0_2 a0.Sites.length c0_2, .slice A0_3 a0.Syms.length c0_3], own 5 (eI .u8) Aa99 cc100 t96, box g19 26 [.slice Aa28 (a0.Words.take (mnn (a0.Words.length : Int) 30 : Int).toNat).length cc29, .slice Aa34 (a0.Sites.take (mnn (a0.Sites.length : Int) 30 : Int).toNat).length cc35, .slice Aa90 l89.length cc91], own 39 eSapi_Sym Aa90 cc91 l89, box g39 26 [.slice Aa28 (a0.Words.take (mnn (a0.Words.length : Int) 30 : Int).toNat).length cc29, .slice Aa34 (a0.Sites.take (mnn (a0.Sites.length : Int) 30 : Int).toNat).length cc35, .slice Aa90 l89.length cc91], own 39 eSapi_Sym none 0 ([] : List Sapi_Sym), own 3 (eI .i64) none 0 ([] : List Int), own 37 (eI .u32) none 0 ([] : List Int), own 39 eSapi_Sym none 0 ([] : List Sapi_Sym), own 3 (eI .i64) none 0 ([] : List Int), own 37 (eI .u32) none 0 ([] : List Int), box g15 26 [.slice A0_1 a0.Words.length c0_1, .slice A0_2 a0.Sites.length c0_2, .slice A0_3 a0.Syms.length c0_3], box g2 26 [.slice A0_1 a0.Words.length c0_1, .slice A0_2 a0.Sites.length c0_2, .slice A0_3 a0.Syms.length c0_3]] → rivetlaw10_FileAll.j7 v274 = some r → K264 a w := by
    intro v274 a w hs hw H
    unfold rivetlaw10_FileAll.j7 at H
    refine hK264 _ _ ?_
    refine wp_ret ?_
    obtain rfl := Option.some.inj H
    refine ret1 (t := 4) (v := .bool v274) hs (by kernel_rfl) (by kernel_rfl) ?_
    exact ⟨rfl, hw.only 0⟩
   refine go_region ?_
   refine go_pvs 2 [5] [(40, .bool t8)] hs ?_; clear hs; intro a hs
   cases hb265 : t8
   ·replace H := ite_f H (ff hb265)
    rw [hb265] at hs
    refine go_pvs 24 [6, 7, 8, 9, 10, 11, 12, 13, 40] [(4, .bool false)] hs ?_; clear hs; intro a hs
    refine go_end ?_
    replace hw := hw.up 36
    replace hw := hw.up 36
    replace hw := hw.up 36
    replace hw := hw.up 36
    replace hw := hw.up 36
    replace hw := hw.up 36
    replace hw := hw.up 36
    replace hw := hw.up 36
    replace hw := hw.up 36
    replace hw := hw.up 36
    replace hw := hw.up 36
    replace hw := hw.up 36
    replace hw := hw.up 36
    replace hw := hw.up 36
    replace hw := hw.up 36
    replace hw := hw.up 36
    replace hw := hw.up 36
    replace hw := hw.up 36
    replace hw := hw.up 36
    replace hw := hw.up 36
    replace hw := hw.up 36
    replace hw := hw.up 36
    replace hw := hw.up 36
    replace hw := hw.up 36
    replace hw := hw.up 36
    replace hw := hw.up 36
    replace hw := hw.up 36
    replace hw := hw.up 36
    replace hw := hw.up 36
    replace hw := hw.up 36
    replace hw := hw.up 36
    replace hw := hw.up 36
    replace hw := hw.up 36
    replace hw := hw.up 36
    replace hw := hw.up 36
    replace hw := hw.up 36
    replace hw := hw.up 36
    exact hJ7 false _ _ hs.kx hw H
   ·replace H := ite_t H hb265
    rw [hb265] at hs
    refine go_pvs 3 [6] [(41, .slice Aa99 t96.length cc100)] hs ?_; clear hs; intro a hs
    refine go_run hs (by rfl) (x_conv (e := 5) (l := t96) (Rd.of_own (hw.up 25)) (by kernel_rfl) (by kernel_rfl) (by kernel_rfl) (by kernel_rfl)) [41] ?_; clear hs; intro a hs
    refine go_pvs 5 [8] [(43, .slice Aa191 t188.length cc192)] hs ?_; clear hs; intro a hs
    refine go_run hs (by rfl) (x_conv (e := 5) (l := t188) (Rd.of_own (hw.up 14)) (by kernel_rfl) (by kernel_rfl) (by kernel_rfl) (by kernel_rfl)) [43] ?_; clear hs; intro a hs
    refine go_pvs 9 [40, 42, 44] [(47, .bool ((strOfNums t96).toList == (strOfNums t188).toList))] hs ?_; clear hs; intro a hs
    cases hb266 : ((strOfNums t96).toList == (strOfNums t188).toList)
    ·replace H := ite_f H (ff hb266)
     rw [hb266] at hs
     refine go_pvs 24 [7, 9, 10, 11, 12, 13, 47] [(4, .bool false)] hs ?_; clear hs; intro a hs
     refine go_end ?_
     replace hw := hw.up 36
     replace hw := hw.up 36
     replace hw := hw.up 36
     replace hw := hw.up 36
     replace hw := hw.up 36
     replace hw := hw.up 36
     replace hw := hw.up 36
     replace hw := hw.up 36
     replace hw := hw.up 36
     replace hw := hw.up 36
     replace hw := hw.up 36
     replace hw := hw.up 36
     replace hw := hw.up 36
     replace hw := hw.up 36
     replace hw := hw.up 36
     replace hw := hw.up 36
     replace hw := hw.up 36
     replace hw := hw.up 36
     replace hw := hw.up 36
     replace hw := hw.up 36
     replace hw := hw.up 36
     replace hw := hw.up 36
     replace hw := hw.up 36
     replace hw := hw.up 36
     replace hw := hw.up 36
     replace hw := hw.up 36
     replace hw := hw.up 36
     replace hw := hw.up 36
     replace hw := hw.up 36
     replace hw := hw.up 36
     replace hw := hw.up 36
     replace hw := hw.up 36
     replace hw := hw.up 36
     replace hw := hw.up 36
     replace hw := hw.up 36
     replace hw := hw.up 36
     replace hw := hw.up 36
     exact hJ7 false _ _ hs.kx hw H
    ·replace H := ite_t H hb266
     rw [hb266] at hs
     refine go_pvs 14 [7, 9, 47] [(52, .bool (t97 == t189))] hs ?_; clear hs; intro a hs
     cases hb267 : (t97 == t189)
     ·replace H := ite_f H (beq_eq_false_iff_ne.1 hb267)
      rw [hb267] at hs
      refine go_pvs 24 [10, 11, 12, 13, 52] [(4, .bool false)] hs ?_; clear hs; intro a hs
      refine go_end ?_
      replace hw := hw.up 36
      replace hw := hw.up 36
      replace hw := hw.up 36
      replace hw := hw.up 36
      replace hw := hw.up 36
      replace hw := hw.up 36
      replace hw := hw.up 36
      replace hw := hw.up 36
      replace hw := hw.up 36
      replace hw := hw.up 36
      replace hw := hw.up 36
      replace hw := hw.up 36
      replace hw := hw.up 36
      replace hw := hw.up 36
      replace hw := hw.up 36
      replace hw := hw.up 36
      replace hw := hw.up 36
      replace hw := hw.up 36
      replace hw := hw.up 36
      replace hw := hw.up 36
      replace hw := hw.up 36
      replace hw := hw.up 36
      replace hw := hw.up 36
      replace hw := hw.up 36
      replace hw := hw.up 36
      replace hw := hw.up 36
      replace hw := hw.up 36
      replace hw := hw.up 36
      replace hw := hw.up 36
      replace hw := hw.up 36
      replace hw := hw.up 36
      replace hw := hw.up 36
      replace hw := hw.up 36
      replace hw := hw.up 36
      replace hw := hw.up 36
      replace hw := hw.up 36
      replace hw := hw.up 36
      exact hJ7 false _ _ hs.kx hw H
     ·replace H := ite_t H (beq_iff_eq.1 hb267)
      rw [hb267] at hs
      refine go_run hs (by rfl) (x_blds (g := g221) (o := 0) (p := (⟨g221, 0, none⟩ : Addr)) (vs := [.slice Aa210 t207.Words.length cc211, .slice Aa212 t207.Sites.length cc213, .slice Aa214 t207.Syms.length cc215]) (hw.up 7)) [10] ?_; clear hs; intro a hs
      refine go_run hs (by rfl) (x_blds (g := g255) (o := 0) (p := (⟨g255, 0, none⟩ : Addr)) (vs := [.slice Aa244 t241.Words.length cc245, .slice Aa246 t241.Sites.length cc247, .slice Aa248 t241.Syms.length cc249]) (hw.up 0)) [12] ?_; clear hs; intro a hs
      obtain ⟨t269, hx270, H⟩ := bind_some H
      refine go_call hs (by rfl) (rivetref09_Same.calls t207 Aa210 cc211 Aa212 cc213 Aa214 cc215 t241 Aa244 cc245 Aa246 cc247 Aa248 cc249 t269 _ (Rd.of_own (hw.up 11)) (Rd.of_own (hw.up 12)) (Rd.of_own (hw.up 13)) (Rd.of_own (hw.up 4)) (Rd.of_own (hw.up 5)) (Rd.of_own (hw.up 6)) hx270) ?_
      rintro e wd271 ⟨rfl, hw272⟩
      refine ⟨_, rfl, ?_⟩
      replace hw := hw.call hw272
      clear hs; intro a hs; replace hs := hs.rms [53, 54]
      refine go_pvs 19 [52, 55] [(57, .bool t269)] hs ?_; clear hs; intro a hs
      cases hb273 : t269
      ·replace H := ite_f H (ff hb273)
       rw [hb273] at hs
       refine go_pvs 24 [11, 13, 57] [(4, .bool false)] hs ?_; clear hs; intro a hs
       refine go_end ?_
       replace hw := hw.up 36
       replace hw := hw.up 36
       replace hw := hw.up 36
       replace hw := hw.up 36
       replace hw := hw.up 36
       replace hw := hw.up 36
       replace hw := hw.up 36
       replace hw := hw.up 36
       replace hw := hw.up 36
       replace hw := hw.up 36
       replace hw := hw.up 36
       replace hw := hw.up 36
       replace hw := hw.up 36
       replace hw := hw.up 36
       replace hw := hw.up 36
       replace hw := hw.up 36
       replace hw := hw.up 36
       replace hw := hw.up 36
       replace hw := hw.up 36
       replace hw := hw.up 36
       replace hw := hw.up 36
       replace hw := hw.up 36
       replace hw := hw.up 36
       replace hw := hw.up 36
       replace hw := hw.up 36
       replace hw := hw.up 36
       replace hw := hw.up 36
       replace hw := hw.up 36
       replace hw := hw.up 36
       replace hw := hw.up 36
       replace hw := hw.up 36
       replace hw := hw.up 36
       replace hw := hw.up 36
       replace hw := hw.up 36
       replace hw := hw.up 36
       replace hw := hw.up 36
       replace hw := hw.up 36
       exact hJ7 false _ _ hs.kx hw H
      ·replace H := ite_t H hb273
       rw [hb273] at hs
       refine go_pvs 24 [11, 13, 57] [(4, .bool (t208 == t242))] hs ?_; clear hs; intro a hs
       refine go_end ?_
       replace hw := hw.up 36
       replace hw := hw.up 36
       replace hw := hw.up 36
       replace hw := hw.up 36
       replace hw := hw.up 36
       replace hw := hw.up 36
       replace hw := hw.up 36
       replace hw := hw.up 36
       replace hw := hw.up 36
       replace hw := hw.up 36
       replace hw := hw.up 36
       replace hw := hw.up 36
       replace hw := hw.up 36
       replace hw := hw.up 36
       replace hw := hw.up 36
       replace hw := hw.up 36
       replace hw := hw.up 36
       replace hw := hw.up 36
       replace hw := hw.up 36
       replace hw := hw.up 36
       replace hw := hw.up 36
       replace hw := hw.up 36
       replace hw := hw.up 36
       replace hw := hw.up 36
       replace hw := hw.up 36
       replace hw := hw.up 36
       replace hw := hw.up 36
       replace hw := hw.up 36
       replace hw := hw.up 36
       replace hw := hw.up 36
       replace hw := hw.up 36
       replace hw := hw.up 36
       replace hw := hw.up 36
       replace hw := hw.up 36
       replace hw := hw.up 36
       replace hw := hw.up 36
       replace hw := hw.up 36
       exact hJ7 (t208 == t242) _ _ hs.kx hw H
  clear H
  refine go_loop (σ := (List Sapi_Sym) × Int) (fun σ a w => ∃ Aa145, ∃ cc146, Slots a 52 [(1, .pointer (some (⟨g107, 0, none⟩ : Addr))), (2, .pointer (some (⟨g111, 0, none⟩ : Addr))), (3, .pointer (some (⟨g131, 0, none⟩ : Addr))), (4, .int .i64 σ.2)] ∧ St [] w0 w [own 39 eSapi_Sym Aa145 cc146 σ.1, box g131 26 [.slice Aa120 (a0.Words.take (mnn (a0.Words.length : Int) 30 : Int).toNat).length cc121, .slice Aa126 (a0.Sites.take (mnn (a0.Sites.length : Int) 30 : Int).toNat).length cc127, .slice Aa145 σ.1.length cc146], own 39 eSapi_Sym none 0 ([] : List Sapi_Sym), own 3 (eI .i64) none 0 ([] : List Int), own 37 (eI .u32) none 0 ([] : List Int), own 39 eSapi_Sym none 0 ([] : List Sapi_Sym), own 3 (eI .i64) none 0 ([] : List Int), own 37 (eI .u32) none 0 ([] : List Int), box g111 26 [.slice none ([] : List Int).length 0, .slice none ([] : List Int).length 0, .slice none ([] : List Sapi_Sym).length 0], box g107 26 [.slice A0_1 a0.Words.length c0_1, .slice A0_2 a0.Sites.length c0_2, .slice A0_3 a0.Syms.length c0_3], own 5 (eI .u8) Aa99 cc100 t96, box g19 26 [.slice Aa28 (a0.Words.take (mnn (a0.Words.length : Int) 30 : Int).toNat).length cc29, .slice Aa34 (a0.Sites.take (mnn (a0.Sites.length : Int) 30 : Int).toNat).length cc35, .slice Aa90 l89.length cc91], own 39 eSapi_Sym Aa90 cc91 l89, box g39 26 [.slice Aa28 (a0.Words.take (mnn (a0.Words.length : Int) 30 : Int).toNat).length cc29, .slice Aa34 (a0.Sites.take (mnn (a0.Sites.length : Int) 30 : Int).toNat).length cc35, .slice Aa90 l89.length cc91], own 39 eSapi_Sym none 0 ([] : List Sapi_Sym), own 3 (eI .i64) none 0 ([] : List Int), own 37 (eI .u32) none 0 ([] : List Int), own 39 eSapi_Sym none 0 ([] : List Sapi_Sym), own 3 (eI .i64) none 0 ([] : List Int), own 37 (eI .u32) none 0 ([] : List Int), box g15 26 [.slice A0_1 a0.Words.length c0_1, .slice A0_2 a0.Sites.length c0_2, .slice A0_3 a0.Syms.length c0_3], box g2 26 [.slice A0_1 a0.Words.length c0_1, .slice A0_2 a0.Sites.length c0_2, .slice A0_3 a0.Syms.length c0_3]]) hl143 (by exact ⟨none, 0, hs.kx, hw⟩) ?_
  rintro ⟨l144, v147⟩ a w ⟨Aa145, cc146, hs, hw⟩ o H hr143
  replace hs : Slots a 52 [(1, .pointer (some (⟨g107, 0, none⟩ : Addr))), (2, .pointer (some (⟨g111, 0, none⟩ : Addr))), (3, .pointer (some (⟨g131, 0, none⟩ : Addr))), (4, .int .i64 v147)] := hs
  replace hw : St [] w0 w [own 39 eSapi_Sym Aa145 cc146 l144, box g131 26 [.slice Aa120 (a0.Words.take (mnn (a0.Words.length : Int) 30 : Int).toNat).length cc121, .slice Aa126 (a0.Sites.take (mnn (a0.Sites.length : Int) 30 : Int).toNat).length cc127, .slice Aa145 l144.length cc146], own 39 eSapi_Sym none 0 ([] : List Sapi_Sym), own 3 (eI .i64) none 0 ([] : List Int), own 37 (eI .u32) none 0 ([] : List Int), own 39 eSapi_Sym none 0 ([] : List Sapi_Sym), own 3 (eI .i64) none 0 ([] : List Int), own 37 (eI .u32) none 0 ([] : List Int), box g111 26 [.slice none ([] : List Int).length 0, .slice none ([] : List Int).length 0, .slice none ([] : List Sapi_Sym).length 0], box g107 26 [.slice A0_1 a0.Words.length c0_1, .slice A0_2 a0.Sites.length c0_2, .slice A0_3 a0.Syms.length c0_3], own 5 (eI .u8) Aa99 cc100 t96, box g19 26 [.slice Aa28 (a0.Words.take (mnn (a0.Words.length : Int) 30 : Int).toNat).length cc29, .slice Aa34 (a0.Sites.take (mnn (a0.Sites.length : Int) 30 : Int).toNat).length cc35, .slice Aa90 l89.length cc91], own 39 eSapi_Sym Aa90 cc91 l89, box g39 26 [.slice Aa28 (a0.Words.take (mnn (a0.Words.length : Int) 30 : Int).toNat).length cc29, .slice Aa34 (a0.Sites.take (mnn (a0.Sites.length : Int) 30 : Int).toNat).length cc35, .slice Aa90 l89.length cc91], own 39 eSapi_Sym none 0 ([] : List Sapi_Sym), own 3 (eI .i64) none 0 ([] : List Int), own 37 (eI .u32) none 0 ([] : List Int), own 39 eSapi_Sym none 0 ([] : List Sapi_Sym), own 3 (eI .i64) none 0 ([] : List Int), own 37 (eI .u32) none 0 ([] : List Int), box g15 26 [.slice A0_1 a0.Words.length c0_1, .slice A0_2 a0.Sites.length c0_2, .slice A0_3 a0.Syms.length c0_3], box g2 26 [.slice A0_1 a0.Words.length c0_1, .slice A0_2 a0.Sites.length c0_2, .slice A0_3 a0.Syms.length c0_3]] := hw
  replace H : rivetlaw10_FileAll.b143 a0 l144 v147 = some o := H
  unfold rivetlaw10_FileAll.b143 at H
  refine go_seq_k fun K148 hK148 => ?_
  have hJ5 : ∀ (a : Act) (w : World), Slots a 52 [(1, .pointer (some (⟨g107, 0, none⟩ : Addr))), (2, .pointer (some (⟨g111, 0, none⟩ : Addr))), (3, .pointer (some (⟨g131, 0, none⟩ : Addr))), (4, .int .i64 v147)] → St [] w0 w [own 39 eSapi_Sym Aa145 cc146 l144, box g131 26 [.slice Aa120 (a0.Words.take (mnn (a0.Words.length : Int) 30 : Int).toNat).length cc121, .slice Aa126 (a0.Sites.take (mnn (a0.Sites.length : Int) 30 : Int).toNat).length cc127, .slice Aa145 l144.length cc146], own 39 eSapi_Sym none 0 ([] : List Sapi_Sym), own 3 (eI .i64) none 0 ([] : List Int), own 37 (eI .u32) none 0 ([] : List Int), own 39 eSapi_Sym none 0 ([] : List Sapi_Sym), own 3 (eI .i64) none 0 ([] : List Int), own 37 (eI .u32) none 0 ([] : List Int), box g111 26 [.slice none ([] : List Int).length 0, .slice none ([] : List Int).length 0, .slice none ([] : List Sapi_Sym).length 0], box g107 26 [.slice A0_1 a0.Words.length c0_1, .slice A0_2 a0.Sites.length c0_2, .slice A0_3 a0.Syms.length c0_3], own 5 (eI .u8) Aa99 cc100 t96, box g19 26 [.slice Aa28 (a0.Words.take (mnn (a0.Words.length : Int) 30 : Int).toNat).length cc29, .slice Aa34 (a0.Sites.take (mnn (a0.Sites.length : Int) 30 : Int).toNat).length cc35, .slice Aa90 l89.length cc91], own 39 eSapi_Sym Aa90 cc91 l89, box g39 26 [.slice Aa28 (a0.Words.take (mnn (a0.Words.length : Int) 30 : Int).toNat).length cc29, .slice Aa34 (a0.Sites.take (mnn (a0.Sites.length : Int) 30 : Int).toNat).length cc35, .slice Aa90 l89.length cc91], own 39 eSapi_Sym none 0 ([] : List Sapi_Sym), own 3 (eI .i64) none 0 ([] : List Int), own 37 (eI .u32) none 0 ([] : List Int), own 39 eSapi_Sym none 0 ([] : List Sapi_Sym), own 3 (eI .i64) none 0 ([] : List Int), own 37 (eI .u32) none 0 ([] : List Int), box g15 26 [.slice A0_1 a0.Words.length c0_1, .slice A0_2 a0.Sites.length c0_2, .slice A0_3 a0.Syms.length c0_3], box g2 26 [.slice A0_1 a0.Words.length c0_1, .slice A0_2 a0.Sites.length c0_2, .slice A0_3 a0.Syms.length c0_3]] → rivetlaw10_FileAll.j5 v147 a0 l144 = some o → K148 a w := by
   intro a w hs hw H
   unfold rivetlaw10_FileAll.j5 at H
   refine hK148 _ _ ?_
   refine go_seq_k fun K154 hK154 => ?_
   refine wp_block ?_
   refine go_sk fun K155 hK155 => ?_
   refine go_pvs 1 [] [(32, .pointer (some (((⟨g107, 0, none⟩ : Addr) : Addr).add 2)))] hs ?_; clear hs; intro a hs
   refine go_run hs (by rfl) (x_bld (g := g107) (o := 2) (p := ((⟨g107, 0, none⟩ : Addr) : Addr).add 2) (v := .slice A0_3 a0.Syms.length c0_3) (hw.up 9)) [32] ?_; clear hs; intro a hs
   refine go_pvs 3 [] [(34, .int .i64 v147)] hs ?_; clear hs; intro a hs
   obtain ⟨hp156, H⟩ := ite_only H
   obtain ⟨ad157, rfl⟩ := (hr0_3.old hw).some hp156.1 hp156.2
   refine go_run hs (by rfl) (x_idx (T := 39) (sz := 2) (a := ad157) (n := a0.Syms.length) (cap := c0_3) (k := .i64) (i := v147) hp156) [33, 34] ?_; clear hs; intro a hs
   refine go_run hs (by rfl) (x_lds (off := 0) (p := ad157.add (v147.toNat * 2)) (cs := [.string ((ix eSapi_Sym.d a0.Syms v147).Name), .int .i64 ((ix eSapi_Sym.d a0.Syms v147).At)]) (hr0_3.old hw) hp156 rfl) [35] ?_; clear hs; intro a hs
   obtain ⟨ad158, wd159, hx160, hw⟩ := x_alloc1 (P := Tryd.prog) (elem := 39) (ty := 0) (z := .agg #[.string (⟨#[]⟩ : ByteArray), .int .i64 0]) hs hw eSapi_Sym (⟨(⟨#[]⟩ : ByteArray), 0⟩ : Sapi_Sym) (by kernel_rfl) (by kernel_rfl)
   refine go_run hs (by rfl) hx160 [] ?_; clear hs; intro a hs
   obtain ⟨wd162, hx163, hw⟩ := x_put (P := Tryd.prog) (ty := 0) (t := 39) (x := (Operand.tmp 5)) (y := (Operand.tmp 36)) (off := 0) (p := ad158) (v := .agg #[.string ((ix eSapi_Sym.d a0.Syms v147).Name), .int .i64 ((ix eSapi_Sym.d a0.Syms v147).At)]) (vs := [.string ((ix eSapi_Sym.d a0.Syms v147).Name), .int .i64 ((ix eSapi_Sym.d a0.Syms v147).At)]) (i := 0) (e' := (((ix eSapi_Sym.d a0.Syms v147) : Sapi_Sym) : Sapi_Sym)) hs hw rfl (one_ok (⟨(⟨#[]⟩ : ByteArray), 0⟩ : Sapi_Sym)).1 (one_ok (⟨(⟨#[]⟩ : ByteArray), 0⟩ : Sapi_Sym)).2 (by kernel_rfl) (one_at _ _) (by kernel_rfl) rfl (by kernel_rfl) (Nat.le_of_ble_eq_true rfl) (by simp [Value.oneCell']) (by kernel_rfl)
   refine go_unit hs (by rfl) hx163 [36] ?_; clear hs; intro a hs
   replace hw : St [] w0 wd162 [own 39 eSapi_Sym (some ad158) 1 [((ix eSapi_Sym.d a0.Syms v147) : Sapi_Sym)], own 39 eSapi_Sym Aa145 cc146 l144, box g131 26 [.slice Aa120 (a0.Words.take (mnn (a0.Words.length : Int) 30 : Int).toNat).length cc121, .slice Aa126 (a0.Sites.take (mnn (a0.Sites.length : Int) 30 : Int).toNat).length cc127, .slice Aa145 l144.length cc146], own 39 eSapi_Sym none 0 ([] : List Sapi_Sym), own 3 (eI .i64) none 0 ([] : List Int), own 37 (eI .u32) none 0 ([] : List Int), own 39 eSapi_Sym none 0 ([] : List Sapi_Sym), own 3 (eI .i64) none 0 ([] : List Int), own 37 (eI .u32) none 0 ([] : List Int), box g111 26 [.slice none ([] : List Int).length 0, .slice none ([] : List Int).length 0, .slice none ([] : List Sapi_Sym).length 0], box g107 26 [.slice A0_1 a0.Words.length c0_1, .slice A0_2 a0.Sites.length c0_2, .slice (some ad157) a0.Syms.length c0_3], own 5 (eI .u8) Aa99 cc100 t96, box g19 26 [.slice Aa28 (a0.Words.take (mnn (a0.Words.length : Int) 30 : Int).toNat).length cc29, .slice Aa34 (a0.Sites.take (mnn (a0.Sites.length : Int) 30 : Int).toNat).length cc35, .slice Aa90 l89.length cc91], own 39 eSapi_Sym Aa90 cc91 l89, box g39 26 [.slice Aa28 (a0.Words.take (mnn (a0.Words.length : Int) 30 : Int).toNat).length cc29, .slice Aa34 (a0.Sites.take (mnn (a0.Sites.length : Int) 30 : Int).toNat).length cc35, .slice Aa90 l89.length cc91], own 39 eSapi_Sym none 0 ([] : List Sapi_Sym), own 3 (eI .i64) none 0 ([] : List Int), own 37 (eI .u32) none 0 ([] : List Int), own 39 eSapi_Sym none 0 ([] : List Sapi_Sym), own 3 (eI .i64) none 0 ([] : List Int), own 37 (eI .u32) none 0 ([] : List Int), box g15 26 [.slice A0_1 a0.Words.length c0_1, .slice A0_2 a0.Sites.length c0_2, .slice (some ad157) a0.Syms.length c0_3], box g2 26 [.slice A0_1 a0.Words.length c0_1, .slice A0_2 a0.Sites.length c0_2, .slice (some ad157) a0.Syms.length c0_3]] := hw
   refine go_end (hK155 _ _ ?_)
   refine go_sk fun K164 hK164 => ?_
   refine go_pvs 1 [] [(37, .pointer (some ((ad158 : Addr).add 0)))] hs ?_; clear hs; intro a hs
   refine go_run hs (by rfl) (x_ld (off := 0) (p := (ad158 : Addr).add 0) (v := .string (((ix eSapi_Sym.d a0.Syms v147) : Sapi_Sym).Name)) (Rd.of_own (hw.up 0)) (one_ok ((ix eSapi_Sym.d a0.Syms v147) : Sapi_Sym)) (one_off _ _ _)) [37] ?_; clear hs; intro a hs
   refine go_pvs 3 [] [(39, .pointer (some ((ad158 : Addr).add 0)))] hs ?_; clear hs; intro a hs
   refine go_run hs (by rfl) (x_ld (off := 0) (p := (ad158 : Addr).add 0) (v := .string (((ix eSapi_Sym.d a0.Syms v147) : Sapi_Sym).Name)) (Rd.of_own (hw.up 0)) (one_ok ((ix eSapi_Sym.d a0.Syms v147) : Sapi_Sym)) (one_off _ _ _)) [39] ?_; clear hs; intro a hs
   refine go_pvs 6 [40] [(42, .int .i64 (mnn ((((ix eSapi_Sym.d a0.Syms v147) : Sapi_Sym).Name).size : Int) 20))] hs ?_; clear hs; intro a hs
   obtain ⟨hp165, H⟩ := ite_only H
   refine go_run hs (by rfl) (x_scut (s := ((ix eSapi_Sym.d a0.Syms v147) : Sapi_Sym).Name) (k := .i64) (k' := .i64) (l0 := (0 : Int)) (h := (mnn ((((ix eSapi_Sym.d a0.Syms v147) : Sapi_Sym).Name).size : Int) 20)) (by kernel_rfl) (by kernel_rfl) (Or.inr ⟨rfl, rfl⟩) (Or.inl (by kernel_rfl)) hp165.1 hp165.2.1 hp165.2.2) [38, 42] ?_; clear hs; intro a hs
   refine go_pvs 8 [] [(44, .pointer (some ((ad158 : Addr).add 0)))] hs ?_; clear hs; intro a hs
   obtain ⟨wd166, hx167, hw⟩ := x_put (P := Tryd.prog) (ty := 0) (t := 9) (x := (Operand.tmp 44)) (y := (Operand.tmp 43)) (off := 0) (p := (ad158 : Addr).add 0) (v := .string ((((ix eSapi_Sym.d a0.Syms v147) : Sapi_Sym).Name).extract ((0 : Int) : Int).toNat ((mnn ((((ix eSapi_Sym.d a0.Syms v147) : Sapi_Sym).Name).size : Int) 20) : Int).toNat)) (vs := [.string ((((ix eSapi_Sym.d a0.Syms v147) : Sapi_Sym).Name).extract ((0 : Int) : Int).toNat ((mnn ((((ix eSapi_Sym.d a0.Syms v147) : Sapi_Sym).Name).size : Int) 20) : Int).toNat)]) (i := 0) (e' := (({ ((ix eSapi_Sym.d a0.Syms v147) : Sapi_Sym) with Name := (((ix eSapi_Sym.d a0.Syms v147) : Sapi_Sym).Name).extract ((0 : Int) : Int).toNat ((mnn ((((ix eSapi_Sym.d a0.Syms v147) : Sapi_Sym).Name).size : Int) 20) : Int).toNat } : Sapi_Sym) : Sapi_Sym)) hs hw rfl (one_ok ((ix eSapi_Sym.d a0.Syms v147) : Sapi_Sym)).1 (one_ok ((ix eSapi_Sym.d a0.Syms v147) : Sapi_Sym)).2 (by kernel_rfl) (one_off _ _ _) (by kernel_rfl) rfl (by kernel_rfl) (Nat.le_of_ble_eq_true rfl) (by simp [Value.oneCell']) (by kernel_rfl)
   refine go_unit hs (by rfl) hx167 [43, 44] ?_; clear hs; intro a hs
   replace hw : St [] w0 wd166 [own 39 eSapi_Sym (some ad158) 1 [({ ((ix eSapi_Sym.d a0.Syms v147) : Sapi_Sym) with Name := (((ix eSapi_Sym.d a0.Syms v147) : Sapi_Sym).Name).extract ((0 : Int) : Int).toNat ((mnn ((((ix eSapi_Sym.d a0.Syms v147) : Sapi_Sym).Name).size : Int) 20) : Int).toNat } : Sapi_Sym)], own 39 eSapi_Sym Aa145 cc146 l144, box g131 26 [.slice Aa120 (a0.Words.take (mnn (a0.Words.length : Int) 30 : Int).toNat).length cc121, .slice Aa126 (a0.Sites.take (mnn (a0.Sites.length : Int) 30 : Int).toNat).length cc127, .slice Aa145 l144.length cc146], own 39 eSapi_Sym none 0 ([] : List Sapi_Sym), own 3 (eI .i64) none 0 ([] : List Int), own 37 (eI .u32) none 0 ([] : List Int), own 39 eSapi_Sym none 0 ([] : List Sapi_Sym), own 3 (eI .i64) none 0 ([] : List Int), own 37 (eI .u32) none 0 ([] : List Int), box g111 26 [.slice none ([] : List Int).length 0, .slice none ([] : List Int).length 0, .slice none ([] : List Sapi_Sym).length 0], box g107 26 [.slice A0_1 a0.Words.length c0_1, .slice A0_2 a0.Sites.length c0_2, .slice (some ad157) a0.Syms.length c0_3], own 5 (eI .u8) Aa99 cc100 t96, box g19 26 [.slice Aa28 (a0.Words.take (mnn (a0.Words.length : Int) 30 : Int).toNat).length cc29, .slice Aa34 (a0.Sites.take (mnn (a0.Sites.length : Int) 30 : Int).toNat).length cc35, .slice Aa90 l89.length cc91], own 39 eSapi_Sym Aa90 cc91 l89, box g39 26 [.slice Aa28 (a0.Words.take (mnn (a0.Words.length : Int) 30 : Int).toNat).length cc29, .slice Aa34 (a0.Sites.take (mnn (a0.Sites.length : Int) 30 : Int).toNat).length cc35, .slice Aa90 l89.length cc91], own 39 eSapi_Sym none 0 ([] : List Sapi_Sym), own 3 (eI .i64) none 0 ([] : List Int), own 37 (eI .u32) none 0 ([] : List Int), own 39 eSapi_Sym none 0 ([] : List Sapi_Sym), own 3 (eI .i64) none 0 ([] : List Int), own 37 (eI .u32) none 0 ([] : List Int), box g15 26 [.slice A0_1 a0.Words.length c0_1, .slice A0_2 a0.Sites.length c0_2, .slice (some ad157) a0.Syms.length c0_3], box g2 26 [.slice A0_1 a0.Words.length c0_1, .slice A0_2 a0.Sites.length c0_2, .slice (some ad157) a0.Syms.length c0_3]] := hw
   refine go_end (hK164 _ _ ?_)
   refine go_region ?_
   refine go_pvs 1 [] [(45, .pointer (some (((⟨g131, 0, none⟩ : Addr) : Addr).add 2)))] hs ?_; clear hs; intro a hs
   refine go_run hs (by rfl) (x_bld (g := g131) (o := 2) (p := ((⟨g131, 0, none⟩ : Addr) : Addr).add 2) (v := .slice Aa145 l144.length cc146) (hw.up 2)) [45] ?_; clear hs; intro a hs
   refine go_run hs (by rfl) (x_lds (off := 0) (p := ad158) (cs := [.string ((((ix eSapi_Sym.d a0.Syms v147) : Sapi_Sym).Name).extract ((0 : Int) : Int).toNat ((mnn ((((ix eSapi_Sym.d a0.Syms v147) : Sapi_Sym).Name).size : Int) 20) : Int).toNat), .int .i64 (((ix eSapi_Sym.d a0.Syms v147) : Sapi_Sym).At)]) (Rd.of_own (hw.up 0)) (one_ok ({ ((ix eSapi_Sym.d a0.Syms v147) : Sapi_Sym) with Name := (((ix eSapi_Sym.d a0.Syms v147) : Sapi_Sym).Name).extract ((0 : Int) : Int).toNat ((mnn ((((ix eSapi_Sym.d a0.Syms v147) : Sapi_Sym).Name).size : Int) 20) : Int).toNat } : Sapi_Sym)) (one_at _ _)) [5] ?_; clear hs; intro a hs
   obtain ⟨Aa168, cc169, wd170, hx171, hw⟩ := n_lit (P := Tryd.prog) (t := 24) (ty := 24) (T := 39) (len := 1) (parts := #[(0, (Operand.tmp 47))]) (z := .agg #[.string (⟨#[]⟩ : ByteArray), .int .i64 0]) (bytes := 24) (cells := #[.string ((((ix eSapi_Sym.d a0.Syms v147) : Sapi_Sym).Name).extract ((0 : Int) : Int).toNat ((mnn ((((ix eSapi_Sym.d a0.Syms v147) : Sapi_Sym).Name).size : Int) 20) : Int).toNat), .int .i64 (((ix eSapi_Sym.d a0.Syms v147) : Sapi_Sym).At)]) hs hw eSapi_Sym ([({ ((ix eSapi_Sym.d a0.Syms v147) : Sapi_Sym) with Name := (((ix eSapi_Sym.d a0.Syms v147) : Sapi_Sym).Name).extract ((0 : Int) : Int).toNat ((mnn ((((ix eSapi_Sym.d a0.Syms v147) : Sapi_Sym).Name).size : Int) 20) : Int).toNat } : Sapi_Sym)] : List Sapi_Sym) (by kernel_rfl) (by kernel_rfl) (by kernel_rfl) (by kernel_rfl) (by kernel_rfl) (by kernel_rfl) (by kernel_rfl)
   refine go_run hs (by rfl) hx171 [47] ?_; clear hs; intro a hs
   obtain ⟨hp173, H⟩ := ite_only H
   have hsrc178 : Src Tryd.prog eSapi_Sym.sz 24 (.slice Aa168 ([({ ((ix eSapi_Sym.d a0.Syms v147) : Sapi_Sym) with Name := (((ix eSapi_Sym.d a0.Syms v147) : Sapi_Sym).Name).extract ((0 : Int) : Int).toNat ((mnn ((((ix eSapi_Sym.d a0.Syms v147) : Sapi_Sym).Name).size : Int) 20) : Int).toNat } : Sapi_Sym)] : List Sapi_Sym).length cc169) ([({ ((ix eSapi_Sym.d a0.Syms v147) : Sapi_Sym) with Name := (((ix eSapi_Sym.d a0.Syms v147) : Sapi_Sym).Name).extract ((0 : Int) : Int).toNat ((mnn ((((ix eSapi_Sym.d a0.Syms v147) : Sapi_Sym).Name).size : Int) 20) : Int).toNat } : Sapi_Sym)] : List Sapi_Sym).length (([({ ((ix eSapi_Sym.d a0.Syms v147) : Sapi_Sym) with Name := (((ix eSapi_Sym.d a0.Syms v147) : Sapi_Sym).Name).extract ((0 : Int) : Int).toNat ((mnn ((((ix eSapi_Sym.d a0.Syms v147) : Sapi_Sym).Name).size : Int) 20) : Int).toNat } : Sapi_Sym)] : List Sapi_Sym).flatMap eSapi_Sym.enc) _ := (Src.of_rd (E := eSapi_Sym) (e' := 39) (by kernel_rfl) (Rd.of_own (hw.up 0)))
   replace hw := hw.up 2
   obtain ⟨Aa174, cc175, wd176, hx177, hw⟩ := x_append (P := Tryd.prog) (t := 24) (tx := 24) (ty := 24) (x := (Operand.tmp 46)) (y := (Operand.tmp 48)) (z := .agg #[.string (⟨#[]⟩ : ByteArray), .int .i64 0]) (bytes := 24) (l2 := ([({ ((ix eSapi_Sym.d a0.Syms v147) : Sapi_Sym) with Name := (((ix eSapi_Sym.d a0.Syms v147) : Sapi_Sym).Name).extract ((0 : Int) : Int).toNat ((mnn ((((ix eSapi_Sym.d a0.Syms v147) : Sapi_Sym).Name).size : Int) 20) : Int).toNat } : Sapi_Sym)] : List Sapi_Sym)) hs hw (by kernel_rfl) (by kernel_rfl) (by kernel_rfl) (by kernel_rfl) (by kernel_rfl) hsrc178 (by omega) (by omega)
   refine go_run hs (by rfl) hx177 [46, 48] ?_; clear hs; intro a hs
   refine go_pvs 6 [] [(50, .pointer (some (((⟨g131, 0, none⟩ : Addr) : Addr).add 2)))] hs ?_; clear hs; intro a hs
   replace hw := hw.up 3
   obtain ⟨wd179, hx180, hw⟩ := x_bput (P := Tryd.prog) (ty := 0) (t := 24) (y := (Operand.tmp 50)) (z := (Operand.tmp 49)) (o := 2) (p := ((⟨g131, 0, none⟩ : Addr) : Addr).add 2) (v := .slice Aa174 (l144 ++ ([({ ((ix eSapi_Sym.d a0.Syms v147) : Sapi_Sym) with Name := (((ix eSapi_Sym.d a0.Syms v147) : Sapi_Sym).Name).extract ((0 : Int) : Int).toNat ((mnn ((((ix eSapi_Sym.d a0.Syms v147) : Sapi_Sym).Name).size : Int) 20) : Int).toNat } : Sapi_Sym)] : List Sapi_Sym)).length cc175) (vs := [.slice Aa174 (l144 ++ ([({ ((ix eSapi_Sym.d a0.Syms v147) : Sapi_Sym) with Name := (((ix eSapi_Sym.d a0.Syms v147) : Sapi_Sym).Name).extract ((0 : Int) : Int).toNat ((mnn ((((ix eSapi_Sym.d a0.Syms v147) : Sapi_Sym).Name).size : Int) 20) : Int).toNat } : Sapi_Sym)] : List Sapi_Sym)).length cc175]) (cs' := [.slice Aa120 (a0.Words.take (mnn (a0.Words.length : Int) 30 : Int).toNat).length cc121, .slice Aa126 (a0.Sites.take (mnn (a0.Sites.length : Int) 30 : Int).toNat).length cc127, .slice Aa174 (l144 ++ ([({ ((ix eSapi_Sym.d a0.Syms v147) : Sapi_Sym) with Name := (((ix eSapi_Sym.d a0.Syms v147) : Sapi_Sym).Name).extract ((0 : Int) : Int).toNat ((mnn ((((ix eSapi_Sym.d a0.Syms v147) : Sapi_Sym).Name).size : Int) 20) : Int).toNat } : Sapi_Sym)] : List Sapi_Sym)).length cc175]) hs hw (by kernel_rfl) rfl (by kernel_rfl) rfl (by kernel_rfl) (by kernel_rfl) (by simp [Value.oneCell']) rfl
   refine go_unit hs (by rfl) hx180 [49, 50] ?_; clear hs; intro a hs
   refine go_end ?_
   refine ib_norm ?_
   refine hK154 _ _ ?_
   refine go_plain [] [(4, .int .i64 (w64 (v147 + 1)))] hs ?_; clear hs; intro a hs
   replace hw := hw.up 23
   replace hw := hw.up 23
   replace hw := hw.up 23
   replace hw := hw.up 23
   replace hw := hw.up 23
   replace hw := hw.up 23
   replace hw := hw.up 23
   replace hw := hw.up 23
   replace hw := hw.up 23
   replace hw := hw.up 23
   replace hw := hw.up 23
   replace hw := hw.up 23
   replace hw := hw.up 23
   replace hw := hw.up 23
   replace hw := hw.up 23
   replace hw := hw.up 23
   replace hw := hw.up 23
   replace hw := hw.up 23
   replace hw := hw.up 23
   replace hw := hw.up 23
   replace hw := hw.up 20
   replace hw := hw.up 21
   replace hw := hw.only 22
   exact round_end (l144 ++ ([({ ((ix eSapi_Sym.d a0.Syms v147) : Sapi_Sym) with Name := (((ix eSapi_Sym.d a0.Syms v147) : Sapi_Sym).Name).extract ((0 : Int) : Int).toNat ((mnn ((((ix eSapi_Sym.d a0.Syms v147) : Sapi_Sym).Name).size : Int) 20) : Int).toNat } : Sapi_Sym)] : List Sapi_Sym), w64 (v147 + 1)) (Option.some.inj H).symm ⟨Aa174, cc175, hs.kx, hw⟩
  refine go_seq_k fun K149 hK149 => ?_
  have hJ4 : ∀ (v151 : Bool) (a : Act) (w : World), Slots a 52 [(1, .pointer (some (⟨g107, 0, none⟩ : Addr))), (2, .pointer (some (⟨g111, 0, none⟩ : Addr))), (3, .pointer (some (⟨g131, 0, none⟩ : Addr))), (4, .int .i64 v147), (29, .bool v151)] → St [] w0 w [own 39 eSapi_Sym Aa145 cc146 l144, box g131 26 [.slice Aa120 (a0.Words.take (mnn (a0.Words.length : Int) 30 : Int).toNat).length cc121, .slice Aa126 (a0.Sites.take (mnn (a0.Sites.length : Int) 30 : Int).toNat).length cc127, .slice Aa145 l144.length cc146], own 39 eSapi_Sym none 0 ([] : List Sapi_Sym), own 3 (eI .i64) none 0 ([] : List Int), own 37 (eI .u32) none 0 ([] : List Int), own 39 eSapi_Sym none 0 ([] : List Sapi_Sym), own 3 (eI .i64) none 0 ([] : List Int), own 37 (eI .u32) none 0 ([] : List Int), box g111 26 [.slice none ([] : List Int).length 0, .slice none ([] : List Int).length 0, .slice none ([] : List Sapi_Sym).length 0], box g107 26 [.slice A0_1 a0.Words.length c0_1, .slice A0_2 a0.Sites.length c0_2, .slice A0_3 a0.Syms.length c0_3], own 5 (eI .u8) Aa99 cc100 t96, box g19 26 [.slice Aa28 (a0.Words.take (mnn (a0.Words.length : Int) 30 : Int).toNat).length cc29, .slice Aa34 (a0.Sites.take (mnn (a0.Sites.length : Int) 30 : Int).toNat).length cc35, .slice Aa90 l89.length cc91], own 39 eSapi_Sym Aa90 cc91 l89, box g39 26 [.slice Aa28 (a0.Words.take (mnn (a0.Words.length : Int) 30 : Int).toNat).length cc29, .slice Aa34 (a0.Sites.take (mnn (a0.Sites.length : Int) 30 : Int).toNat).length cc35, .slice Aa90 l89.length cc91], own 39 eSapi_Sym none 0 ([] : List Sapi_Sym), own 3 (eI .i64) none 0 ([] : List Int), own 37 (eI .u32) none 0 ([] : List Int), own 39 eSapi_Sym none 0 ([] : List Sapi_Sym), own 3 (eI .i64) none 0 ([] : List Int), own 37 (eI .u32) none 0 ([] : List Int), box g15 26 [.slice A0_1 a0.Words.length c0_1, .slice A0_2 a0.Sites.length c0_2, .slice A0_3 a0.Syms.length c0_3], box g2 26 [.slice A0_1 a0.Words.length c0_1, .slice A0_2 a0.Sites.length c0_2, .slice A0_3 a0.Syms.length c0_3]] → rivetlaw10_FileAll.j4 v147 a0 l144 v151 = some o → K149 a w := by
   intro v151 a w hs hw H
   unfold rivetlaw10_FileAll.j4 at H
   refine hK149 _ _ ?_
   refine go_cond hs v151 (fun hc => ?_) fun hc => ?_
   ·replace H := ite_t H hc
    have hb152 := hc
    rw [hb152] at hs
    refine wp_skip ?_
    replace hw := hw.up 21
    replace hw := hw.up 21
    replace hw := hw.up 21
    replace hw := hw.up 21
    replace hw := hw.up 21
    replace hw := hw.up 21
    replace hw := hw.up 21
    replace hw := hw.up 21
    replace hw := hw.up 21
    replace hw := hw.up 21
    replace hw := hw.up 21
    replace hw := hw.up 21
    replace hw := hw.up 21
    replace hw := hw.up 21
    replace hw := hw.up 21
    replace hw := hw.up 21
    replace hw := hw.up 21
    replace hw := hw.up 21
    replace hw := hw.up 21
    replace hw := hw.up 21
    replace hw := hw.up 21
    replace hw := hw.up 21
    exact hJ5 _ _ hs.kx hw H
   ·replace H := ite_f H (ff hc)
    have hb153 := hc
    rw [hb153] at hs
    refine wp_exit ?_
    refine th_exit ?_
    refine th_exit ?_
    refine in_block ?_
    replace hw := hw.up 21
    replace hw := hw.up 21
    replace hw := hw.up 21
    replace hw := hw.up 21
    replace hw := hw.up 21
    replace hw := hw.up 21
    replace hw := hw.up 21
    replace hw := hw.up 21
    replace hw := hw.up 21
    replace hw := hw.up 21
    replace hw := hw.up 21
    replace hw := hw.up 21
    replace hw := hw.up 21
    replace hw := hw.up 21
    replace hw := hw.up 21
    replace hw := hw.up 21
    replace hw := hw.up 21
    replace hw := hw.up 21
    replace hw := hw.up 21
    replace hw := hw.up 21
    replace hw := hw.up 21
    replace hw := hw.up 21
    rw [← hr143 _ (Option.some.inj H).symm] at HX143
    exact hJ6 Aa145 cc146 l144 _ _ hs.kx hw HX143
  refine go_region ?_
  refine go_pvs 2 [] [(21, .int .i64 v147), (22, .pointer (some (((⟨g107, 0, none⟩ : Addr) : Addr).add 2)))] hs ?_; clear hs; intro a hs
  refine go_run hs (by rfl) (x_bld (g := g107) (o := 2) (p := ((⟨g107, 0, none⟩ : Addr) : Addr).add 2) (v := .slice A0_3 a0.Syms.length c0_3) (hw.up 9)) [22] ?_; clear hs; intro a hs
  refine go_pvs 6 [21, 23] [(26, .bool (decide (v147 < (a0.Syms.length : Int))))] hs ?_; clear hs; intro a hs
  cases hb150 : (decide (v147 < (a0.Syms.length : Int)))
  ·replace H := ite_f H (of_decide_eq_false hb150)
   rw [hb150] at hs
   refine go_pvs 9 [26] [(29, .bool false)] hs ?_; clear hs; intro a hs
   refine go_end ?_
   replace hw := hw.up 21
   replace hw := hw.up 21
   replace hw := hw.up 21
   replace hw := hw.up 21
   replace hw := hw.up 21
   replace hw := hw.up 21
   replace hw := hw.up 21
   replace hw := hw.up 21
   replace hw := hw.up 21
   replace hw := hw.up 21
   replace hw := hw.up 21
   replace hw := hw.up 21
   replace hw := hw.up 21
   replace hw := hw.up 21
   replace hw := hw.up 21
   replace hw := hw.up 21
   replace hw := hw.up 21
   replace hw := hw.up 21
   replace hw := hw.up 21
   replace hw := hw.up 21
   replace hw := hw.up 21
   replace hw := hw.up 21
   exact hJ4 false _ _ hs.kx hw H
  ·replace H := ite_t H (of_decide_eq_true hb150)
   rw [hb150] at hs
   refine go_pvs 9 [26] [(29, .bool (decide (v147 < 12)))] hs ?_; clear hs; intro a hs
   refine go_end ?_
   replace hw := hw.up 21
   replace hw := hw.up 21
   replace hw := hw.up 21
   replace hw := hw.up 21
   replace hw := hw.up 21
   replace hw := hw.up 21
   replace hw := hw.up 21
   replace hw := hw.up 21
   replace hw := hw.up 21
   replace hw := hw.up 21
   replace hw := hw.up 21
   replace hw := hw.up 21
   replace hw := hw.up 21
   replace hw := hw.up 21
   replace hw := hw.up 21
   replace hw := hw.up 21
   replace hw := hw.up 21
   replace hw := hw.up 21
   replace hw := hw.up 21
   replace hw := hw.up 21
   replace hw := hw.up 21
   replace hw := hw.up 21
   exact hJ4 (decide (v147 < 12)) _ _ hs.kx hw H
 clear H
 refine go_loop (σ := (List Sapi_Sym) × Int) (fun σ a w => ∃ Aa53, ∃ cc54, Slots a 52 [(1, .pointer (some (⟨g15, 0, none⟩ : Addr))), (2, .pointer (some (⟨g19, 0, none⟩ : Addr))), (3, .pointer (some (⟨g39, 0, none⟩ : Addr))), (4, .int .i64 σ.2)] ∧ St [] w0 w [own 39 eSapi_Sym Aa53 cc54 σ.1, box g39 26 [.slice Aa28 (a0.Words.take (mnn (a0.Words.length : Int) 30 : Int).toNat).length cc29, .slice Aa34 (a0.Sites.take (mnn (a0.Sites.length : Int) 30 : Int).toNat).length cc35, .slice Aa53 σ.1.length cc54], own 39 eSapi_Sym none 0 ([] : List Sapi_Sym), own 3 (eI .i64) none 0 ([] : List Int), own 37 (eI .u32) none 0 ([] : List Int), own 39 eSapi_Sym none 0 ([] : List Sapi_Sym), own 3 (eI .i64) none 0 ([] : List Int), own 37 (eI .u32) none 0 ([] : List Int), box g19 26 [.slice none ([] : List Int).length 0, .slice none ([] : List Int).length 0, .slice none ([] : List Sapi_Sym).length 0], box g15 26 [.slice A0_1 a0.Words.length c0_1, .slice A0_2 a0.Sites.length c0_2, .slice A0_3 a0.Syms.length c0_3], box g2 26 [.slice A0_1 a0.Words.length c0_1, .slice A0_2 a0.Sites.length c0_2, .slice A0_3 a0.Syms.length c0_3]]) hl51 (by exact ⟨none, 0, hs.kx, hw⟩) ?_
 rintro ⟨l52, v55⟩ a w ⟨Aa53, cc54, hs, hw⟩ o H hr51
 replace hs : Slots a 52 [(1, .pointer (some (⟨g15, 0, none⟩ : Addr))), (2, .pointer (some (⟨g19, 0, none⟩ : Addr))), (3, .pointer (some (⟨g39, 0, none⟩ : Addr))), (4, .int .i64 v55)] := hs
 replace hw : St [] w0 w [own 39 eSapi_Sym Aa53 cc54 l52, box g39 26 [.slice Aa28 (a0.Words.take (mnn (a0.Words.length : Int) 30 : Int).toNat).length cc29, .slice Aa34 (a0.Sites.take (mnn (a0.Sites.length : Int) 30 : Int).toNat).length cc35, .slice Aa53 l52.length cc54], own 39 eSapi_Sym none 0 ([] : List Sapi_Sym), own 3 (eI .i64) none 0 ([] : List Int), own 37 (eI .u32) none 0 ([] : List Int), own 39 eSapi_Sym none 0 ([] : List Sapi_Sym), own 3 (eI .i64) none 0 ([] : List Int), own 37 (eI .u32) none 0 ([] : List Int), box g19 26 [.slice none ([] : List Int).length 0, .slice none ([] : List Int).length 0, .slice none ([] : List Sapi_Sym).length 0], box g15 26 [.slice A0_1 a0.Words.length c0_1, .slice A0_2 a0.Sites.length c0_2, .slice A0_3 a0.Syms.length c0_3], box g2 26 [.slice A0_1 a0.Words.length c0_1, .slice A0_2 a0.Sites.length c0_2, .slice A0_3 a0.Syms.length c0_3]] := hw
 replace H : rivetlaw10_FileAll.b51 a0 l52 v55 = some o := H
 unfold rivetlaw10_FileAll.b51 at H
 refine go_seq_k fun K56 hK56 => ?_
 have hJ2 : ∀ (a : Act) (w : World), Slots a 52 [(1, .pointer (some (⟨g15, 0, none⟩ : Addr))), (2, .pointer (some (⟨g19, 0, none⟩ : Addr))), (3, .pointer (some (⟨g39, 0, none⟩ : Addr))), (4, .int .i64 v55)] → St [] w0 w [own 39 eSapi_Sym Aa53 cc54 l52, box g39 26 [.slice Aa28 (a0.Words.take (mnn (a0.Words.length : Int) 30 : Int).toNat).length cc29, .slice Aa34 (a0.Sites.take (mnn (a0.Sites.length : Int) 30 : Int).toNat).length cc35, .slice Aa53 l52.length cc54], own 39 eSapi_Sym none 0 ([] : List Sapi_Sym), own 3 (eI .i64) none 0 ([] : List Int), own 37 (eI .u32) none 0 ([] : List Int), own 39 eSapi_Sym none 0 ([] : List Sapi_Sym), own 3 (eI .i64) none 0 ([] : List Int), own 37 (eI .u32) none 0 ([] : List Int), box g19 26 [.slice none ([] : List Int).length 0, .slice none ([] : List Int).length 0, .slice none ([] : List Sapi_Sym).length 0], box g15 26 [.slice A0_1 a0.Words.length c0_1, .slice A0_2 a0.Sites.length c0_2, .slice A0_3 a0.Syms.length c0_3], box g2 26 [.slice A0_1 a0.Words.length c0_1, .slice A0_2 a0.Sites.length c0_2, .slice A0_3 a0.Syms.length c0_3]] → rivetlaw10_FileAll.j2 v55 a0 l52 = some o → K56 a w := by
  intro a w hs hw H
  unfold rivetlaw10_FileAll.j2 at H
  refine hK56 _ _ ?_
  refine go_seq_k fun K62 hK62 => ?_
  refine wp_block ?_
  refine go_sk fun K63 hK63 => ?_
  refine go_pvs 1 [] [(32, .pointer (some (((⟨g15, 0, none⟩ : Addr) : Addr).add 2)))] hs ?_; clear hs; intro a hs
  refine go_run hs (by rfl) (x_bld (g := g15) (o := 2) (p := ((⟨g15, 0, none⟩ : Addr) : Addr).add 2) (v := .slice A0_3 a0.Syms.length c0_3) (hw.up 9)) [32] ?_; clear hs; intro a hs
  refine go_pvs 3 [] [(34, .int .i64 v55)] hs ?_; clear hs; intro a hs
  obtain ⟨hp64, H⟩ := ite_only H
  obtain ⟨ad65, rfl⟩ := (hr0_3.old hw).some hp64.1 hp64.2
  refine go_run hs (by rfl) (x_idx (T := 39) (sz := 2) (a := ad65) (n := a0.Syms.length) (cap := c0_3) (k := .i64) (i := v55) hp64) [33, 34] ?_; clear hs; intro a hs
  refine go_run hs (by rfl) (x_lds (off := 0) (p := ad65.add (v55.toNat * 2)) (cs := [.string ((ix eSapi_Sym.d a0.Syms v55).Name), .int .i64 ((ix eSapi_Sym.d a0.Syms v55).At)]) (hr0_3.old hw) hp64 rfl) [35] ?_; clear hs; intro a hs
  obtain ⟨ad66, wd67, hx68, hw⟩ := x_alloc1 (P := Tryd.prog) (elem := 39) (ty := 0) (z := .agg #[.string (⟨#[]⟩ : ByteArray), .int .i64 0]) hs hw eSapi_Sym (⟨(⟨#[]⟩ : ByteArray), 0⟩ : Sapi_Sym) (by kernel_rfl) (by kernel_rfl)
  refine go_run hs (by rfl) hx68 [] ?_; clear hs; intro a hs
  obtain ⟨wd70, hx71, hw⟩ := x_put (P := Tryd.prog) (ty := 0) (t := 39) (x := (Operand.tmp 5)) (y := (Operand.tmp 36)) (off := 0) (p := ad66) (v := .agg #[.string ((ix eSapi_Sym.d a0.Syms v55).Name), .int .i64 ((ix eSapi_Sym.d a0.Syms v55).At)]) (vs := [.string ((ix eSapi_Sym.d a0.Syms v55).Name), .int .i64 ((ix eSapi_Sym.d a0.Syms v55).At)]) (i := 0) (e' := (((ix eSapi_Sym.d a0.Syms v55) : Sapi_Sym) : Sapi_Sym)) hs hw rfl (one_ok (⟨(⟨#[]⟩ : ByteArray), 0⟩ : Sapi_Sym)).1 (one_ok (⟨(⟨#[]⟩ : ByteArray), 0⟩ : Sapi_Sym)).2 (by kernel_rfl) (one_at _ _) (by kernel_rfl) rfl (by kernel_rfl) (Nat.le_of_ble_eq_true rfl) (by simp [Value.oneCell']) (by kernel_rfl)
  refine go_unit hs (by rfl) hx71 [36] ?_; clear hs; intro a hs
  replace hw : St [] w0 wd70 [own 39 eSapi_Sym (some ad66) 1 [((ix eSapi_Sym.d a0.Syms v55) : Sapi_Sym)], own 39 eSapi_Sym Aa53 cc54 l52, box g39 26 [.slice Aa28 (a0.Words.take (mnn (a0.Words.length : Int) 30 : Int).toNat).length cc29, .slice Aa34 (a0.Sites.take (mnn (a0.Sites.length : Int) 30 : Int).toNat).length cc35, .slice Aa53 l52.length cc54], own 39 eSapi_Sym none 0 ([] : List Sapi_Sym), own 3 (eI .i64) none 0 ([] : List Int), own 37 (eI .u32) none 0 ([] : List Int), own 39 eSapi_Sym none 0 ([] : List Sapi_Sym), own 3 (eI .i64) none 0 ([] : List Int), own 37 (eI .u32) none 0 ([] : List Int), box g19 26 [.slice none ([] : List Int).length 0, .slice none ([] : List Int).length 0, .slice none ([] : List Sapi_Sym).length 0], box g15 26 [.slice A0_1 a0.Words.length c0_1, .slice A0_2 a0.Sites.length c0_2, .slice (some ad65) a0.Syms.length c0_3], box g2 26 [.slice A0_1 a0.Words.length c0_1, .slice A0_2 a0.Sites.length c0_2, .slice (some ad65) a0.Syms.length c0_3]] := hw
  refine go_end (hK63 _ _ ?_)
  refine go_sk fun K72 hK72 => ?_
  refine go_pvs 1 [] [(37, .pointer (some ((ad66 : Addr).add 0)))] hs ?_; clear hs; intro a hs
  refine go_run hs (by rfl) (x_ld (off := 0) (p := (ad66 : Addr).add 0) (v := .string (((ix eSapi_Sym.d a0.Syms v55) : Sapi_Sym).Name)) (Rd.of_own (hw.up 0)) (one_ok ((ix eSapi_Sym.d a0.Syms v55) : Sapi_Sym)) (one_off _ _ _)) [37] ?_; clear hs; intro a hs
  refine go_pvs 3 [] [(39, .pointer (some ((ad66 : Addr).add 0)))] hs ?_; clear hs; intro a hs
  refine go_run hs (by rfl) (x_ld (off := 0) (p := (ad66 : Addr).add 0) (v := .string (((ix eSapi_Sym.d a0.Syms v55) : Sapi_Sym).Name)) (Rd.of_own (hw.up 0)) (one_ok ((ix eSapi_Sym.d a0.Syms v55) : Sapi_Sym)) (one_off _ _ _)) [39] ?_; clear hs; intro a hs
  refine go_pvs 6 [40] [(42, .int .i64 (mnn ((((ix eSapi_Sym.d a0.Syms v55) : Sapi_Sym).Name).size : Int) 20))] hs ?_; clear hs; intro a hs
  obtain ⟨hp73, H⟩ := ite_only H
  refine go_run hs (by rfl) (x_scut (s := ((ix eSapi_Sym.d a0.Syms v55) : Sapi_Sym).Name) (k := .i64) (k' := .i64) (l0 := (0 : Int)) (h := (mnn ((((ix eSapi_Sym.d a0.Syms v55) : Sapi_Sym).Name).size : Int) 20)) (by kernel_rfl) (by kernel_rfl) (Or.inr ⟨rfl, rfl⟩) (Or.inl (by kernel_rfl)) hp73.1 hp73.2.1 hp73.2.2) [38, 42] ?_; clear hs; intro a hs
  refine go_pvs 8 [] [(44, .pointer (some ((ad66 : Addr).add 0)))] hs ?_; clear hs; intro a hs
  obtain ⟨wd74, hx75, hw⟩ := x_put (P := Tryd.prog) (ty := 0) (t := 9) (x := (Operand.tmp 44)) (y := (Operand.tmp 43)) (off := 0) (p := (ad66 : Addr).add 0) (v := .string ((((ix eSapi_Sym.d a0.Syms v55) : Sapi_Sym).Name).extract ((0 : Int) : Int).toNat ((mnn ((((ix eSapi_Sym.d a0.Syms v55) : Sapi_Sym).Name).size : Int) 20) : Int).toNat)) (vs := [.string ((((ix eSapi_Sym.d a0.Syms v55) : Sapi_Sym).Name).extract ((0 : Int) : Int).toNat ((mnn ((((ix eSapi_Sym.d a0.Syms v55) : Sapi_Sym).Name).size : Int) 20) : Int).toNat)]) (i := 0) (e' := (({ ((ix eSapi_Sym.d a0.Syms v55) : Sapi_Sym) with Name := (((ix eSapi_Sym.d a0.Syms v55) : Sapi_Sym).Name).extract ((0 : Int) : Int).toNat ((mnn ((((ix eSapi_Sym.d a0.Syms v55) : Sapi_Sym).Name).size : Int) 20) : Int).toNat } : Sapi_Sym) : Sapi_Sym)) hs hw rfl (one_ok ((ix eSapi_Sym.d a0.Syms v55) : Sapi_Sym)).1 (one_ok ((ix eSapi_Sym.d a0.Syms v55) : Sapi_Sym)).2 (by kernel_rfl) (one_off _ _ _) (by kernel_rfl) rfl (by kernel_rfl) (Nat.le_of_ble_eq_true rfl) (by simp [Value.oneCell']) (by kernel_rfl)
  refine go_unit hs (by rfl) hx75 [43, 44] ?_; clear hs; intro a hs
  replace hw : St [] w0 wd74 [own 39 eSapi_Sym (some ad66) 1 [({ ((ix eSapi_Sym.d a0.Syms v55) : Sapi_Sym) with Name := (((ix eSapi_Sym.d a0.Syms v55) : Sapi_Sym).Name).extract ((0 : Int) : Int).toNat ((mnn ((((ix eSapi_Sym.d a0.Syms v55) : Sapi_Sym).Name).size : Int) 20) : Int).toNat } : Sapi_Sym)], own 39 eSapi_Sym Aa53 cc54 l52, box g39 26 [.slice Aa28 (a0.Words.take (mnn (a0.Words.length : Int) 30 : Int).toNat).length cc29, .slice Aa34 (a0.Sites.take (mnn (a0.Sites.length : Int) 30 : Int).toNat).length cc35, .slice Aa53 l52.length cc54], own 39 eSapi_Sym none 0 ([] : List Sapi_Sym), own 3 (eI .i64) none 0 ([] : List Int), own 37 (eI .u32) none 0 ([] : List Int), own 39 eSapi_Sym none 0 ([] : List Sapi_Sym), own 3 (eI .i64) none 0 ([] : List Int), own 37 (eI .u32) none 0 ([] : List Int), box g19 26 [.slice none ([] : List Int).length 0, .slice none ([] : List Int).length 0, .slice none ([] : List Sapi_Sym).length 0], box g15 26 [.slice A0_1 a0.Words.length c0_1, .slice A0_2 a0.Sites.length c0_2, .slice (some ad65) a0.Syms.length c0_3], box g2 26 [.slice A0_1 a0.Words.length c0_1, .slice A0_2 a0.Sites.length c0_2, .slice (some ad65) a0.Syms.length c0_3]] := hw
  refine go_end (hK72 _ _ ?_)
  refine go_region ?_
  refine go_pvs 1 [] [(45, .pointer (some (((⟨g39, 0, none⟩ : Addr) : Addr).add 2)))] hs ?_; clear hs; intro a hs
  refine go_run hs (by rfl) (x_bld (g := g39) (o := 2) (p := ((⟨g39, 0, none⟩ : Addr) : Addr).add 2) (v := .slice Aa53 l52.length cc54) (hw.up 2)) [45] ?_; clear hs; intro a hs
  refine go_run hs (by rfl) (x_lds (off := 0) (p := ad66) (cs := [.string ((((ix eSapi_Sym.d a0.Syms v55) : Sapi_Sym).Name).extract ((0 : Int) : Int).toNat ((mnn ((((ix eSapi_Sym.d a0.Syms v55) : Sapi_Sym).Name).size : Int) 20) : Int).toNat), .int .i64 (((ix eSapi_Sym.d a0.Syms v55) : Sapi_Sym).At)]) (Rd.of_own (hw.up 0)) (one_ok ({ ((ix eSapi_Sym.d a0.Syms v55) : Sapi_Sym) with Name := (((ix eSapi_Sym.d a0.Syms v55) : Sapi_Sym).Name).extract ((0 : Int) : Int).toNat ((mnn ((((ix eSapi_Sym.d a0.Syms v55) : Sapi_Sym).Name).size : Int) 20) : Int).toNat } : Sapi_Sym)) (one_at _ _)) [5] ?_; clear hs; intro a hs
  obtain ⟨Aa76, cc77, wd78, hx79, hw⟩ := n_lit (P := Tryd.prog) (t := 24) (ty := 24) (T := 39) (len := 1) (parts := #[(0, (Operand.tmp 47))]) (z := .agg #[.string (⟨#[]⟩ : ByteArray), .int .i64 0]) (bytes := 24) (cells := #[.string ((((ix eSapi_Sym.d a0.Syms v55) : Sapi_Sym).Name).extract ((0 : Int) : Int).toNat ((mnn ((((ix eSapi_Sym.d a0.Syms v55) : Sapi_Sym).Name).size : Int) 20) : Int).toNat), .int .i64 (((ix eSapi_Sym.d a0.Syms v55) : Sapi_Sym).At)]) hs hw eSapi_Sym ([({ ((ix eSapi_Sym.d a0.Syms v55) : Sapi_Sym) with Name := (((ix eSapi_Sym.d a0.Syms v55) : Sapi_Sym).Name).extract ((0 : Int) : Int).toNat ((mnn ((((ix eSapi_Sym.d a0.Syms v55) : Sapi_Sym).Name).size : Int) 20) : Int).toNat } : Sapi_Sym)] : List Sapi_Sym) (by kernel_rfl) (by kernel_rfl) (by kernel_rfl) (by kernel_rfl) (by kernel_rfl) (by kernel_rfl) (by kernel_rfl)
  refine go_run hs (by rfl) hx79 [47] ?_; clear hs; intro a hs
  obtain ⟨hp81, H⟩ := ite_only H
  have hsrc86 : Src Tryd.prog eSapi_Sym.sz 24 (.slice Aa76 ([({ ((ix eSapi_Sym.d a0.Syms v55) : Sapi_Sym) with Name := (((ix eSapi_Sym.d a0.Syms v55) : Sapi_Sym).Name).extract ((0 : Int) : Int).toNat ((mnn ((((ix eSapi_Sym.d a0.Syms v55) : Sapi_Sym).Name).size : Int) 20) : Int).toNat } : Sapi_Sym)] : List Sapi_Sym).length cc77) ([({ ((ix eSapi_Sym.d a0.Syms v55) : Sapi_Sym) with Name := (((ix eSapi_Sym.d a0.Syms v55) : Sapi_Sym).Name).extract ((0 : Int) : Int).toNat ((mnn ((((ix eSapi_Sym.d a0.Syms v55) : Sapi_Sym).Name).size : Int) 20) : Int).toNat } : Sapi_Sym)] : List Sapi_Sym).length (([({ ((ix eSapi_Sym.d a0.Syms v55) : Sapi_Sym) with Name := (((ix eSapi_Sym.d a0.Syms v55) : Sapi_Sym).Name).extract ((0 : Int) : Int).toNat ((mnn ((((ix eSapi_Sym.d a0.Syms v55) : Sapi_Sym).Name).size : Int) 20) : Int).toNat } : Sapi_Sym)] : List Sapi_Sym).flatMap eSapi_Sym.enc) _ := (Src.of_rd (E := eSapi_Sym) (e' := 39) (by kernel_rfl) (Rd.of_own (hw.up 0)))
  replace hw := hw.up 2
  obtain ⟨Aa82, cc83, wd84, hx85, hw⟩ := x_append (P := Tryd.prog) (t := 24) (tx := 24) (ty := 24) (x := (Operand.tmp 46)) (y := (Operand.tmp 48)) (z := .agg #[.string (⟨#[]⟩ : ByteArray), .int .i64 0]) (bytes := 24) (l2 := ([({ ((ix eSapi_Sym.d a0.Syms v55) : Sapi_Sym) with Name := (((ix eSapi_Sym.d a0.Syms v55) : Sapi_Sym).Name).extract ((0 : Int) : Int).toNat ((mnn ((((ix eSapi_Sym.d a0.Syms v55) : Sapi_Sym).Name).size : Int) 20) : Int).toNat } : Sapi_Sym)] : List Sapi_Sym)) hs hw (by kernel_rfl) (by kernel_rfl) (by kernel_rfl) (by kernel_rfl) (by kernel_rfl) hsrc86 (by omega) (by omega)
  refine go_run hs (by rfl) hx85 [46, 48] ?_; clear hs; intro a hs
  refine go_pvs 6 [] [(50, .pointer (some (((⟨g39, 0, none⟩ : Addr) : Addr).add 2)))] hs ?_; clear hs; intro a hs
  replace hw := hw.up 3
  obtain ⟨wd87, hx88, hw⟩ := x_bput (P := Tryd.prog) (ty := 0) (t := 24) (y := (Operand.tmp 50)) (z := (Operand.tmp 49)) (o := 2) (p := ((⟨g39, 0, none⟩ : Addr) : Addr).add 2) (v := .slice Aa82 (l52 ++ ([({ ((ix eSapi_Sym.d a0.Syms v55) : Sapi_Sym) with Name := (((ix eSapi_Sym.d a0.Syms v55) : Sapi_Sym).Name).extract ((0 : Int) : Int).toNat ((mnn ((((ix eSapi_Sym.d a0.Syms v55) : Sapi_Sym).Name).size : Int) 20) : Int).toNat } : Sapi_Sym)] : List Sapi_Sym)).length cc83) (vs := [.slice Aa82 (l52 ++ ([({ ((ix eSapi_Sym.d a0.Syms v55) : Sapi_Sym) with Name := (((ix eSapi_Sym.d a0.Syms v55) : Sapi_Sym).Name).extract ((0 : Int) : Int).toNat ((mnn ((((ix eSapi_Sym.d a0.Syms v55) : Sapi_Sym).Name).size : Int) 20) : Int).toNat } : Sapi_Sym)] : List Sapi_Sym)).length cc83]) (cs' := [.slice Aa28 (a0.Words.take (mnn (a0.Words.length : Int) 30 : Int).toNat).length cc29, .slice Aa34 (a0.Sites.take (mnn (a0.Sites.length : Int) 30 : Int).toNat).length cc35, .slice Aa82 (l52 ++ ([({ ((ix eSapi_Sym.d a0.Syms v55) : Sapi_Sym) with Name := (((ix eSapi_Sym.d a0.Syms v55) : Sapi_Sym).Name).extract ((0 : Int) : Int).toNat ((mnn ((((ix eSapi_Sym.d a0.Syms v55) : Sapi_Sym).Name).size : Int) 20) : Int).toNat } : Sapi_Sym)] : List Sapi_Sym)).length cc83]) hs hw (by kernel_rfl) rfl (by kernel_rfl) rfl (by kernel_rfl) (by kernel_rfl) (by simp [Value.oneCell']) rfl
  refine go_unit hs (by rfl) hx88 [49, 50] ?_; clear hs; intro a hs
  refine go_end ?_
  refine ib_norm ?_
  refine hK62 _ _ ?_
  refine go_plain [] [(4, .int .i64 (w64 (v55 + 1)))] hs ?_; clear hs; intro a hs
  replace hw := hw.up 12
  replace hw := hw.up 12
  replace hw := hw.up 12
  replace hw := hw.up 12
  replace hw := hw.up 12
  replace hw := hw.up 12
  replace hw := hw.up 12
  replace hw := hw.up 12
  replace hw := hw.up 12
  replace hw := hw.up 9
  replace hw := hw.up 10
  replace hw := hw.only 11
  exact round_end (l52 ++ ([({ ((ix eSapi_Sym.d a0.Syms v55) : Sapi_Sym) with Name := (((ix eSapi_Sym.d a0.Syms v55) : Sapi_Sym).Name).extract ((0 : Int) : Int).toNat ((mnn ((((ix eSapi_Sym.d a0.Syms v55) : Sapi_Sym).Name).size : Int) 20) : Int).toNat } : Sapi_Sym)] : List Sapi_Sym), w64 (v55 + 1)) (Option.some.inj H).symm ⟨Aa82, cc83, hs.kx, hw⟩
 refine go_seq_k fun K57 hK57 => ?_
 have hJ1 : ∀ (v59 : Bool) (a : Act) (w : World), Slots a 52 [(1, .pointer (some (⟨g15, 0, none⟩ : Addr))), (2, .pointer (some (⟨g19, 0, none⟩ : Addr))), (3, .pointer (some (⟨g39, 0, none⟩ : Addr))), (4, .int .i64 v55), (29, .bool v59)] → St [] w0 w [own 39 eSapi_Sym Aa53 cc54 l52, box g39 26 [.slice Aa28 (a0.Words.take (mnn (a0.Words.length : Int) 30 : Int).toNat).length cc29, .slice Aa34 (a0.Sites.take (mnn (a0.Sites.length : Int) 30 : Int).toNat).length cc35, .slice Aa53 l52.length cc54], own 39 eSapi_Sym none 0 ([] : List Sapi_Sym), own 3 (eI .i64) none 0 ([] : List Int), own 37 (eI .u32) none 0 ([] : List Int), own 39 eSapi_Sym none 0 ([] : List Sapi_Sym), own 3 (eI .i64) none 0 ([] : List Int), own 37 (eI .u32) none 0 ([] : List Int), box g19 26 [.slice none ([] : List Int).length 0, .slice none ([] : List Int).length 0, .slice none ([] : List Sapi_Sym).length 0], box g15 26 [.slice A0_1 a0.Words.length c0_1, .slice A0_2 a0.Sites.length c0_2, .slice A0_3 a0.Syms.length c0_3], box g2 26 [.slice A0_1 a0.Words.length c0_1, .slice A0_2 a0.Sites.length c0_2, .slice A0_3 a0.Syms.length c0_3]] → rivetlaw10_FileAll.j1 v55 a0 l52 v59 = some o → K57 a w := by
  intro v59 a w hs hw H
  unfold rivetlaw10_FileAll.j1 at H
  refine hK57 _ _ ?_
  refine go_cond hs v59 (fun hc => ?_) fun hc => ?_
  ·replace H := ite_t H hc
   have hb60 := hc
   rw [hb60] at hs
   refine wp_skip ?_
   replace hw := hw.up 10
   replace hw := hw.up 10
   replace hw := hw.up 10
   replace hw := hw.up 10
   replace hw := hw.up 10
   replace hw := hw.up 10
   replace hw := hw.up 10
   replace hw := hw.up 10
   replace hw := hw.up 10
   replace hw := hw.up 10
   replace hw := hw.up 10
   exact hJ2 _ _ hs.kx hw H
  ·replace H := ite_f H (ff hc)
   have hb61 := hc
   rw [hb61] at hs
   refine wp_exit ?_
   refine th_exit ?_
   refine th_exit ?_
   refine in_block ?_
   replace hw := hw.up 10
   replace hw := hw.up 10
   replace hw := hw.up 10
   replace hw := hw.up 10
   replace hw := hw.up 10
   replace hw := hw.up 10
   replace hw := hw.up 10
   replace hw := hw.up 10
   replace hw := hw.up 10
   replace hw := hw.up 10
   replace hw := hw.up 10
   rw [← hr51 _ (Option.some.inj H).symm] at HX51
   exact hJ3 Aa53 cc54 l52 _ _ hs.kx hw HX51
 refine go_region ?_
 refine go_pvs 2 [] [(21, .int .i64 v55), (22, .pointer (some (((⟨g15, 0, none⟩ : Addr) : Addr).add 2)))] hs ?_; clear hs; intro a hs
 refine go_run hs (by rfl) (x_bld (g := g15) (o := 2) (p := ((⟨g15, 0, none⟩ : Addr) : Addr).add 2) (v := .slice A0_3 a0.Syms.length c0_3) (hw.up 9)) [22] ?_; clear hs; intro a hs
 refine go_pvs 6 [21, 23] [(26, .bool (decide (v55 < (a0.Syms.length : Int))))] hs ?_; clear hs; intro a hs
 cases hb58 : (decide (v55 < (a0.Syms.length : Int)))
 ·replace H := ite_f H (of_decide_eq_false hb58)
  rw [hb58] at hs
  refine go_pvs 9 [26] [(29, .bool false)] hs ?_; clear hs; intro a hs
  refine go_end ?_
  replace hw := hw.up 10
  replace hw := hw.up 10
  replace hw := hw.up 10
  replace hw := hw.up 10
  replace hw := hw.up 10
  replace hw := hw.up 10
  replace hw := hw.up 10
  replace hw := hw.up 10
  replace hw := hw.up 10
  replace hw := hw.up 10
  replace hw := hw.up 10
  exact hJ1 false _ _ hs.kx hw H
 ·replace H := ite_t H (of_decide_eq_true hb58)
  rw [hb58] at hs
  refine go_pvs 9 [26] [(29, .bool (decide (v55 < 12)))] hs ?_; clear hs; intro a hs
  refine go_end ?_
  replace hw := hw.up 10
  replace hw := hw.up 10
  replace hw := hw.up 10
  replace hw := hw.up 10
  replace hw := hw.up 10
  replace hw := hw.up 10
  replace hw := hw.up 10
  replace hw := hw.up 10
  replace hw := hw.up 10
  replace hw := hw.up 10
  replace hw := hw.up 10
  exact hJ1 (decide (v55 < 12)) _ _ hs.kx hw H

end Go.Proofs.YtmfnololpfdfdaaDoor.T09
