/- YtckefpenekolhaaDoorT07zLeJoins: Go functions told as plain ones, each with a proof that its call comes to what is told, part 1. Condition of each: that the plain function comes to a value. -/
import Derived.Test.YtckefpenekolhaaDoorT07
import Derived.Test.YtckefpenekolhaaDoorEL
import Derived.Test.YtckefpenekolhaaDoorProg
namespace Go.Proofs.YtckefpenekolhaaDoor.T07
open Go Go.RowKit Go.Proofs.YtckefpenekolhaaDoor.E
set_option linter.unusedVariables false
set_option linter.unusedSimpArgs false

/-! rivet/rivetlaw07.LeJoins: function 7 -/
noncomputable def rivetlaw07_LeJoins.j4 (v113 : Int) : Option (Int ⊕ (Ex Bool Unit)) := some (.inl (w64 (v113 + 1)))
noncomputable def rivetlaw07_LeJoins.j3 (v113 : Int) (v147 : Bool) : Option (Int ⊕ (Ex Bool Unit)) := (if v147 = true then some (.inr (.ret false)) else rivetlaw07_LeJoins.j4 v113)
noncomputable def rivetlaw07_LeJoins.b112 (t82 : List Int) (a2 : ByteArray) (v113 : Int) : Option (Int ⊕ (Ex Bool Unit)) := (if v113 < (t82.length : Int) then (if ([] : List Int).length + t82.length ≤ 140737488355328 then (if 0 ≤ v113 ∧ v113 < ((([] : List Int) ++ t82).length : Int) then ((le_TakeName ((([] : List Int) ++ t82).set (v113 : Int).toNat (wu8 (1 + (wu8 ((a2.size : Int).tmod 255)))))).bind fun ⟨t137, t138, t139⟩ => ((if 0 ≤ v113 ∧ v113 < (t82.length : Int) then (if (ix (eI .u8).d t82 v113) = 0 then rivetlaw07_LeJoins.j3 v113 (t139 != 6) else rivetlaw07_LeJoins.j3 v113 true) else none))) else none) else none) else some (.inr (.done ())))
noncomputable def rivetlaw07_LeJoins.j6 (v184 : Bool) : Option Bool := some v184
noncomputable def rivetlaw07_LeJoins.j5 (l0 : List Int) (l1 : List Int) (t66 : List Int) (t30 : List Int) (t39 : List Int) : Option Bool := (if ([] : List Int).length + (l0.take (mnn (l0.length : Int) 40 : Int).toNat).length ≤ 35184372088832 then (if (([] : List Int) ++ (l0.take (mnn (l0.length : Int) 40 : Int).toNat)).length + (l1.take (mnn (l1.length : Int) 40 : Int).toNat).length ≤ 35184372088832 then ((rivetref05_Same t66 ((([] : List Int) ++ (l0.take (mnn (l0.length : Int) 40 : Int).toNat)) ++ (l1.take (mnn (l1.length : Int) 40 : Int).toNat))).bind fun t171 => ((if t171 = true then ((le_Put t66).bind fun t177 => (rivetlaw07_LeJoins.j6 ((strOfNums t177).toList == (strOfNums ((([] : List Int) ++ t30) ++ t39)).toList))) else rivetlaw07_LeJoins.j6 false))) else none) else none)
noncomputable def rivetlaw07_LeJoins.j2 (t76 : ByteArray) (t82 : List Int) (a2 : ByteArray) (l0 : List Int) (l1 : List Int) (t66 : List Int) (t30 : List Int) (t39 : List Int) : Option Bool := (nm (w64 (1 + (t76.size : Int))) fun y111 => ((loopO (fun (σ : Int) => rivetlaw07_LeJoins.b112 t82 a2 σ) y111).bind fun e => match e with | .ret x => some x | .done e => rivetlaw07_LeJoins.j5 l0 l1 t66 t30 t39))
noncomputable def rivetlaw07_LeJoins.j1 (t76 : ByteArray) (t82 : List Int) (a2 : ByteArray) (l0 : List Int) (l1 : List Int) (t66 : List Int) (t30 : List Int) (t39 : List Int) (v105 : Bool) : Option Bool := (if v105 = true then some false else rivetlaw07_LeJoins.j2 t76 t82 a2 l0 l1 t66 t30 t39)
noncomputable def rivetlaw07_LeJoins (l0 : List Int) (l1 : List Int) (a2 : ByteArray) : Option Bool := ((rivetlaw07_shown).bind fun t4 => ((if 0 ≤ (mnn (l0.length : Int) 40) ∧ (mnn (l0.length : Int) 40) ≤ (l0.length : Int) then (if 0 ≤ (mnn (l1.length : Int) 40) ∧ (mnn (l1.length : Int) 40) ≤ (l1.length : Int) then ((le_Put (l0.take (mnn (l0.length : Int) 40 : Int).toNat)).bind fun t30 => (((le_Put (l1.take (mnn (l1.length : Int) 40 : Int).toNat)).bind fun t39 => ((if ([] : List Int).length + t30.length ≤ 140737488355328 then (if (([] : List Int) ++ t30).length + t39.length ≤ 140737488355328 then ((le_Take ((([] : List Int) ++ t30) ++ t39) (w64 (((l0.take (mnn (l0.length : Int) 40 : Int).toNat).length : Int) + ((l1.take (mnn (l1.length : Int) 40 : Int).toNat).length : Int)))).bind fun ⟨t66, t67⟩ => (((rivetref07_Fit a2).bind fun t76 => (((le_PutName t76).bind fun ⟨t82, t83⟩ => ((if t4 = true then (if t67 = 0 then (if t83 = 0 then (if (t82.length : Int) < (w64 (1 + (t76.size : Int))) then rivetlaw07_LeJoins.j1 t76 t82 a2 l0 l1 t66 t30 t39 true else (if 0 ≤ (0 : Int) ∧ (0 : Int) < (t82.length : Int) then (if (w64 (ix (eI .u8).d t82 (0 : Int))) = (t76.size : Int) then (if 0 ≤ (1 : Int) ∧ (1 : Int) ≤ (w64 (1 + (t76.size : Int))) ∧ (w64 (1 + (t76.size : Int))) ≤ (t82.length : Int) then rivetlaw07_LeJoins.j1 t76 t82 a2 l0 l1 t66 t30 t39 (!((strOfNums ((t82.take (w64 (1 + (t76.size : Int)) : Int).toNat).drop (1 : Int).toNat)).toList == t76.toList)) else none) else rivetlaw07_LeJoins.j1 t76 t82 a2 l0 l1 t66 t30 t39 true) else none)) else rivetlaw07_LeJoins.j1 t76 t82 a2 l0 l1 t66 t30 t39 true) else rivetlaw07_LeJoins.j1 t76 t82 a2 l0 l1 t66 t30 t39 true) else rivetlaw07_LeJoins.j1 t76 t82 a2 l0 l1 t66 t30 t39 true))))))) else none) else none))))) else none) else none)))
set_option maxRecDepth 100000 in
set_option maxHeartbeats 4000000 in
theorem rivetlaw07_LeJoins.calls (A0 : Option Addr) (c0 : Nat) (l0 : List Int) (A1 : Option Addr) (c1 : Nat) (l1 : List Int) (a2 : ByteArray) (r : Bool) (w0 : World) (hr0 : Rd w0 (eI .u32) A0 c0 l0) (hr1 : Rd w0 (eI .u32) A1 c1 l1) (H : rivetlaw07_LeJoins l0 l1 a2 = some r) :
    Calls Tryd.prog 7 #[.slice A0 l0.length c0, .slice A1 l1.length c1, .string a2] w0 fun e w' => e = .returned (.bool r) ∧ St [] w0 w' [] := by
 have hw : St [] w0 w0 [] := St.nil w0
 unfold rivetlaw07_LeJoins at H
 refine go_fn Tryd.func7 rfl 141 Tryd.ntmps7 [(0, .slice A0 l0.length c0), (1, .slice A1 l1.length c1), (2, .string a2)] (by kernel_rfl) rfl ?_
 intro a hs
 refine go_seq_k fun K1 hK1 => ?_
 refine go_region ?_
 refine go_pvs 0 1 [0, 1, 2] hs (L' := [(0, .slice A0 l0.length c0), (1, .slice A1 l1.length c1), (2, .string a2)]) (by kernel_rfl) ?_ rfl
 clear hs; intro a hs
 refine go_end (by kernel_rfl) ?_
 refine hK1 _ _ ?_
 refine go_seq_k fun K2 hK2 => ?_
 refine go_region ?_
 obtain ⟨t4, hx5, H⟩ := bind_some H
 refine go_call hs (op := (Op.call { callee := (Callee.value (Operand.func 8)), args := #[], argTypes := #[] })) (ty := 4) (dst := some 23) (g := none) (by kernel_rfl) (by kernel_rfl) (by kernel_rfl) (f := 8) (args := #[]) (by kernel_rfl) (rivetlaw07_shown.calls t4 _ hx5) ?_
 rintro e wd6 ⟨rfl, hw7⟩
 refine ⟨_, rfl, ?_⟩
 replace hw := hw.call hw7
 intro a hs1
 replace hs : Slots a 141 [(0, .slice A0 l0.length c0), (1, .slice A1 l1.length c1), (2, .string a2), (23, .bool t4)] := hs1.keep [0, 1, 2, 23] (by kernel_rfl)
 clear hs1
 refine go_pvs 1 2 [0, 1, 2, 7] hs (L' := [(0, .slice A0 l0.length c0), (1, .slice A1 l1.length c1), (2, .string a2), (7, .bool t4)]) (by kernel_rfl) ?_ rfl
 clear hs; intro a hs
 refine go_end (by kernel_rfl) ?_
 refine hK2 _ _ ?_
 refine go_seq_k fun K8 hK8 => ?_
 refine go_region ?_
 refine go_pvs 0 1 [1, 2, 7, 24] hs (L' := [(1, .slice A1 l1.length c1), (2, .string a2), (7, .bool t4), (24, .slice A0 l0.length c0)]) (by kernel_rfl) ?_ rfl
 clear hs; intro a hs
 refine go_inline_k hs (op := (Op.call { callee := (Callee.value (Operand.func 20)), args := #[(Operand.tmp 24)], argTypes := #[32] })) (ty := 32) (dst := some 25) (g := none) (by kernel_rfl) (by kernel_rfl) (by kernel_rfl) (f := 20) (args := #[.slice A0 l0.length c0]) (by kernel_rfl) (fun KR9 hKR9 => ?_)
 refine go_fn Tryd.func20 rfl 8 Tryd.ntmps20 [(0, .slice A0 l0.length c0)] (by kernel_rfl) rfl ?_
 clear hs; intro a hs
 refine go_seq_k fun K10 hK10 => ?_
 refine go_region ?_
 refine go_pvs 0 1 [0] hs (L' := [(0, .slice A0 l0.length c0)]) (by kernel_rfl) ?_ rfl
 clear hs; intro a hs
 refine go_end (by kernel_rfl) ?_
 refine hK10 _ _ ?_
 refine go_seq_k fun K11 hK11 => ?_
 refine go_region ?_
 refine go_pvs 0 4 [3, 6] hs (L' := [(3, .slice A0 l0.length c0), (6, .int .i64 (mnn (l0.length : Int) 40))]) (by kernel_rfl) ?_ rfl
 clear hs; intro a hs
 obtain ⟨hp12, H⟩ := ite_only H
 obtain ⟨Aa13, cc14, hx15, hc16⟩ := c_hi (P := Tryd.prog) (ty := 32) (E := (eI .u32)) (T := 43) (t := 32) (x := (Operand.tmp 3)) (y := (Operand.tmp 6)) (k := .i64) hs (by kernel_rfl) (by kernel_rfl) (hr0.old hw) (by kernel_rfl) (by kernel_rfl) hp12.1 hp12.2
 refine go_run hs (op := (Op.slice 32 (Operand.tmp 3) none (some (Operand.tmp 6)) none)) (ty := 32) (dst := some 7) (g := none) (by kernel_rfl) (by kernel_rfl) (by kernel_rfl) hx15 [7] (L' := [(7, .slice Aa13 (l0.take (mnn (l0.length : Int) 40 : Int).toNat).length cc14)]) (by kernel_rfl) ?_
 clear hs; intro a hs
 refine go_pvs 5 6 [2] hs (L' := [(2, .slice Aa13 (l0.take (mnn (l0.length : Int) 40 : Int).toNat).length cc14)]) (by kernel_rfl) ?_ rfl
 clear hs; intro a hs
 refine go_end (by kernel_rfl) ?_
 refine hK11 _ _ ?_
 refine wp_ret ?_
 refine ret1 (t := 2) (v := .slice Aa13 (l0.take (mnn (l0.length : Int) 40 : Int).toNat).length cc14) hs (by kernel_rfl) (by kernel_rfl) ?_
 refine ⟨_, rfl, ?_⟩
 refine hKR9 _ _ ?_
 intro a hs1
 have hs : Slots a _ [(1, .slice A1 l1.length c1), (2, .string a2), (7, .bool t4), (25, .slice Aa13 (l0.take (mnn (l0.length : Int) 40 : Int).toNat).length cc14)] := hs1.keep [1, 2, 7, 25] (by kernel_rfl)
 clear hs1
 refine go_pvs 2 3 [1, 2, 7, 8] hs (L' := [(1, .slice A1 l1.length c1), (2, .string a2), (7, .bool t4), (8, .slice Aa13 (l0.take (mnn (l0.length : Int) 40 : Int).toNat).length cc14)]) (by kernel_rfl) ?_ rfl
 clear hs; intro a hs
 refine go_end (by kernel_rfl) ?_
 refine hK8 _ _ ?_
 refine go_seq_k fun K18 hK18 => ?_
 refine go_region ?_
 refine go_pvs 0 1 [2, 7, 8, 26] hs (L' := [(2, .string a2), (7, .bool t4), (8, .slice Aa13 (l0.take (mnn (l0.length : Int) 40 : Int).toNat).length cc14), (26, .slice A1 l1.length c1)]) (by kernel_rfl) ?_ rfl
 clear hs; intro a hs
 refine go_inline_k hs (op := (Op.call { callee := (Callee.value (Operand.func 20)), args := #[(Operand.tmp 26)], argTypes := #[32] })) (ty := 32) (dst := some 27) (g := none) (by kernel_rfl) (by kernel_rfl) (by kernel_rfl) (f := 20) (args := #[.slice A1 l1.length c1]) (by kernel_rfl) (fun KR19 hKR19 => ?_)
 refine go_fn Tryd.func20 rfl 8 Tryd.ntmps20 [(0, .slice A1 l1.length c1)] (by kernel_rfl) rfl ?_
 clear hs; intro a hs
 refine go_seq_k fun K20 hK20 => ?_
 refine go_region ?_
 refine go_pvs 0 1 [0] hs (L' := [(0, .slice A1 l1.length c1)]) (by kernel_rfl) ?_ rfl
 clear hs; intro a hs
 refine go_end (by kernel_rfl) ?_
 refine hK20 _ _ ?_
 refine go_seq_k fun K21 hK21 => ?_
 refine go_region ?_
 refine go_pvs 0 4 [3, 6] hs (L' := [(3, .slice A1 l1.length c1), (6, .int .i64 (mnn (l1.length : Int) 40))]) (by kernel_rfl) ?_ rfl
 clear hs; intro a hs
 obtain ⟨hp22, H⟩ := ite_only H
 obtain ⟨Aa23, cc24, hx25, hc26⟩ := c_hi (P := Tryd.prog) (ty := 32) (E := (eI .u32)) (T := 43) (t := 32) (x := (Operand.tmp 3)) (y := (Operand.tmp 6)) (k := .i64) hs (by kernel_rfl) (by kernel_rfl) (hr1.old hw) (by kernel_rfl) (by kernel_rfl) hp22.1 hp22.2
 refine go_run hs (op := (Op.slice 32 (Operand.tmp 3) none (some (Operand.tmp 6)) none)) (ty := 32) (dst := some 7) (g := none) (by kernel_rfl) (by kernel_rfl) (by kernel_rfl) hx25 [7] (L' := [(7, .slice Aa23 (l1.take (mnn (l1.length : Int) 40 : Int).toNat).length cc24)]) (by kernel_rfl) ?_
 clear hs; intro a hs
 refine go_pvs 5 6 [2] hs (L' := [(2, .slice Aa23 (l1.take (mnn (l1.length : Int) 40 : Int).toNat).length cc24)]) (by kernel_rfl) ?_ rfl
 clear hs; intro a hs
 refine go_end (by kernel_rfl) ?_
 refine hK21 _ _ ?_
 refine wp_ret ?_
 refine ret1 (t := 2) (v := .slice Aa23 (l1.take (mnn (l1.length : Int) 40 : Int).toNat).length cc24) hs (by kernel_rfl) (by kernel_rfl) ?_
 refine ⟨_, rfl, ?_⟩
 refine hKR19 _ _ ?_
 intro a hs1
 have hs : Slots a _ [(2, .string a2), (7, .bool t4), (8, .slice Aa13 (l0.take (mnn (l0.length : Int) 40 : Int).toNat).length cc14), (27, .slice Aa23 (l1.take (mnn (l1.length : Int) 40 : Int).toNat).length cc24)] := hs1.keep [2, 7, 8, 27] (by kernel_rfl)
 clear hs1
 refine go_pvs 2 3 [2, 7, 8, 9] hs (L' := [(2, .string a2), (7, .bool t4), (8, .slice Aa13 (l0.take (mnn (l0.length : Int) 40 : Int).toNat).length cc14), (9, .slice Aa23 (l1.take (mnn (l1.length : Int) 40 : Int).toNat).length cc24)]) (by kernel_rfl) ?_ rfl
 clear hs; intro a hs
 refine go_end (by kernel_rfl) ?_
 refine hK18 _ _ ?_
 refine go_seq_k fun K28 hK28 => ?_
 refine go_region ?_
 refine go_pvs 0 1 [2, 7, 8, 9, 28] hs (L' := [(2, .string a2), (7, .bool t4), (8, .slice Aa13 (l0.take (mnn (l0.length : Int) 40 : Int).toNat).length cc14), (9, .slice Aa23 (l1.take (mnn (l1.length : Int) 40 : Int).toNat).length cc24), (28, .slice Aa13 (l0.take (mnn (l0.length : Int) 40 : Int).toNat).length cc14)]) (by kernel_rfl) ?_ rfl
 clear hs; intro a hs
 obtain ⟨t30, hx31, H⟩ := bind_some H
 refine go_call hs (op := (Op.call { callee := (Callee.value (Operand.func 19)), args := #[(Operand.tmp 28)], argTypes := #[32] })) (ty := 22) (dst := some 29) (g := none) (by kernel_rfl) (by kernel_rfl) (by kernel_rfl) (f := 19) (args := #[.slice Aa13 (l0.take (mnn (l0.length : Int) 40 : Int).toNat).length cc14]) (by kernel_rfl) (le_Put.calls Aa13 cc14 (l0.take (mnn (l0.length : Int) 40 : Int).toNat) t30 _ (hc16 _ (hr0.old hw)) hx31) ?_
 rintro e wd34 ⟨Aa32, cc33, rfl, hw35⟩
 refine ⟨_, rfl, ?_⟩
 replace hw := hw.call hw35
 intro a hs1
 replace hs : Slots a 141 [(2, .string a2), (7, .bool t4), (8, .slice Aa13 (l0.take (mnn (l0.length : Int) 40 : Int).toNat).length cc14), (9, .slice Aa23 (l1.take (mnn (l1.length : Int) 40 : Int).toNat).length cc24), (29, .slice Aa32 t30.length cc33)] := hs1.keep [2, 7, 8, 9, 29] (by kernel_rfl)
 clear hs1
 refine go_pvs 2 3 [2, 7, 8, 9, 10] hs (L' := [(2, .string a2), (7, .bool t4), (8, .slice Aa13 (l0.take (mnn (l0.length : Int) 40 : Int).toNat).length cc14), (9, .slice Aa23 (l1.take (mnn (l1.length : Int) 40 : Int).toNat).length cc24), (10, .slice Aa32 t30.length cc33)]) (by kernel_rfl) ?_ rfl
 clear hs; intro a hs
 refine go_end (by kernel_rfl) ?_
 refine hK28 _ _ ?_
 refine go_seq_k fun K37 hK37 => ?_
 refine go_region ?_
 refine go_pvs 0 1 [2, 7, 8, 9, 10, 30] hs (L' := [(2, .string a2), (7, .bool t4), (8, .slice Aa13 (l0.take (mnn (l0.length : Int) 40 : Int).toNat).length cc14), (9, .slice Aa23 (l1.take (mnn (l1.length : Int) 40 : Int).toNat).length cc24), (10, .slice Aa32 t30.length cc33), (30, .slice Aa23 (l1.take (mnn (l1.length : Int) 40 : Int).toNat).length cc24)]) (by kernel_rfl) ?_ rfl
 clear hs; intro a hs
 obtain ⟨t39, hx40, H⟩ := bind_some H
 refine go_call hs (op := (Op.call { callee := (Callee.value (Operand.func 19)), args := #[(Operand.tmp 30)], argTypes := #[32] })) (ty := 22) (dst := some 31) (g := none) (by kernel_rfl) (by kernel_rfl) (by kernel_rfl) (f := 19) (args := #[.slice Aa23 (l1.take (mnn (l1.length : Int) 40 : Int).toNat).length cc24]) (by kernel_rfl) (le_Put.calls Aa23 cc24 (l1.take (mnn (l1.length : Int) 40 : Int).toNat) t39 _ (hc26 _ (hr1.old hw)) hx40) ?_
 rintro e wd43 ⟨Aa41, cc42, rfl, hw44⟩
 refine ⟨_, rfl, ?_⟩
 replace hw := hw.call hw44
 intro a hs1
 replace hs : Slots a 141 [(2, .string a2), (7, .bool t4), (8, .slice Aa13 (l0.take (mnn (l0.length : Int) 40 : Int).toNat).length cc14), (9, .slice Aa23 (l1.take (mnn (l1.length : Int) 40 : Int).toNat).length cc24), (10, .slice Aa32 t30.length cc33), (31, .slice Aa41 t39.length cc42)] := hs1.keep [2, 7, 8, 9, 10, 31] (by kernel_rfl)
 clear hs1
 refine go_pvs 2 3 [2, 7, 8, 9, 10, 11] hs (L' := [(2, .string a2), (7, .bool t4), (8, .slice Aa13 (l0.take (mnn (l0.length : Int) 40 : Int).toNat).length cc14), (9, .slice Aa23 (l1.take (mnn (l1.length : Int) 40 : Int).toNat).length cc24), (10, .slice Aa32 t30.length cc33), (11, .slice Aa41 t39.length cc42)]) (by kernel_rfl) ?_ rfl
 clear hs; intro a hs
 refine go_end (by kernel_rfl) ?_
 refine hK37 _ _ ?_
 refine go_seq_k fun K46 hK46 => ?_
 refine go_region ?_
 obtain ⟨Aa47, cc48, wd49, hx50, hw⟩ := n_lit0 (P := Tryd.prog) (t := 22) (ty := 22) (T := 5) hs hw (eI .u8) (by kernel_rfl) (by kernel_rfl)
 refine go_run hs (op := (Op.buildSlice 22 0 #[])) (ty := 22) (dst := some 32) (g := none) (by kernel_rfl) (by kernel_rfl) (by kernel_rfl) hx50 [2, 7, 8, 9, 10, 11, 32] (L' := [(2, .string a2), (7, .bool t4), (8, .slice Aa13 (l0.take (mnn (l0.length : Int) 40 : Int).toNat).length cc14), (9, .slice Aa23 (l1.take (mnn (l1.length : Int) 40 : Int).toNat).length cc24), (10, .slice Aa32 t30.length cc33), (11, .slice Aa41 t39.length cc42), (32, .slice Aa47 ([] : List Int).length cc48)]) (by kernel_rfl) ?_
 clear hs; intro a hs
 refine go_pvs 1 2 [2, 7, 8, 9, 11, 32, 33] hs (L' := [(2, .string a2), (7, .bool t4), (8, .slice Aa13 (l0.take (mnn (l0.length : Int) 40 : Int).toNat).length cc14), (9, .slice Aa23 (l1.take (mnn (l1.length : Int) 40 : Int).toNat).length cc24), (11, .slice Aa41 t39.length cc42), (32, .slice Aa47 ([] : List Int).length cc48), (33, .slice Aa32 t30.length cc33)]) (by kernel_rfl) ?_ rfl
 clear hs; intro a hs
 obtain ⟨hp52, H⟩ := ite_only H
 have hsrc57 : Src Tryd.prog (eI .u8).sz 22 (.slice Aa32 t30.length cc33) t30.length (t30.flatMap (eI .u8).enc) _ := (Src.of_rd (E := (eI .u8)) (e' := 5) (by kernel_rfl) (Rd.of_own (hw.up 2)))
 obtain ⟨Aa53, cc54, wd55, hx56, hw⟩ := x_append (P := Tryd.prog) (t := 22) (tx := 22) (ty := 22) (x := (Operand.tmp 32)) (y := (Operand.tmp 33)) (z := .int .u8 0) (bytes := 1) (l2 := t30) hs hw (by kernel_rfl) (by kernel_rfl) (by kernel_rfl) (by kernel_rfl) (by kernel_rfl) hsrc57 (by omega) (by omega)
 refine go_run hs (op := (Op.call { callee := (Callee.builtin Builtin.append), args := #[(Operand.tmp 32), (Operand.tmp 33)], argTypes := #[22, 22] })) (ty := 22) (dst := some 34) (g := none) (by kernel_rfl) (by kernel_rfl) (by kernel_rfl) hx56 [2, 7, 8, 9, 11, 34] (L' := [(2, .string a2), (7, .bool t4), (8, .slice Aa13 (l0.take (mnn (l0.length : Int) 40 : Int).toNat).length cc14), (9, .slice Aa23 (l1.take (mnn (l1.length : Int) 40 : Int).toNat).length cc24), (11, .slice Aa41 t39.length cc42), (34, .slice Aa53 (([] : List Int) ++ t30).length cc54)]) (by kernel_rfl) ?_
 clear hs; intro a hs
 refine go_pvs 3 4 [2, 7, 8, 9, 34, 35] hs (L' := [(2, .string a2), (7, .bool t4), (8, .slice Aa13 (l0.take (mnn (l0.length : Int) 40 : Int).toNat).length cc14), (9, .slice Aa23 (l1.take (mnn (l1.length : Int) 40 : Int).toNat).length cc24), (34, .slice Aa53 (([] : List Int) ++ t30).length cc54), (35, .slice Aa41 t39.length cc42)]) (by kernel_rfl) ?_ rfl
 clear hs; intro a hs
 obtain ⟨hp58, H⟩ := ite_only H
 have hsrc63 : Src Tryd.prog (eI .u8).sz 22 (.slice Aa41 t39.length cc42) t39.length (t39.flatMap (eI .u8).enc) _ := (Src.of_rd (E := (eI .u8)) (e' := 5) (by kernel_rfl) (Rd.of_own (hw.up 1)))
 obtain ⟨Aa59, cc60, wd61, hx62, hw⟩ := x_append (P := Tryd.prog) (t := 22) (tx := 22) (ty := 22) (x := (Operand.tmp 34)) (y := (Operand.tmp 35)) (z := .int .u8 0) (bytes := 1) (l2 := t39) hs hw (by kernel_rfl) (by kernel_rfl) (by kernel_rfl) (by kernel_rfl) (by kernel_rfl) hsrc63 (by omega) (by omega)
 refine go_run hs (op := (Op.call { callee := (Callee.builtin Builtin.append), args := #[(Operand.tmp 34), (Operand.tmp 35)], argTypes := #[22, 22] })) (ty := 22) (dst := some 36) (g := none) (by kernel_rfl) (by kernel_rfl) (by kernel_rfl) hx62 [2, 7, 8, 9, 36] (L' := [(2, .string a2), (7, .bool t4), (8, .slice Aa13 (l0.take (mnn (l0.length : Int) 40 : Int).toNat).length cc14), (9, .slice Aa23 (l1.take (mnn (l1.length : Int) 40 : Int).toNat).length cc24), (36, .slice Aa59 ((([] : List Int) ++ t30) ++ t39).length cc60)]) (by kernel_rfl) ?_
 clear hs; intro a hs
 refine go_pvs 5 6 [2, 7, 8, 9, 12] hs (L' := [(2, .string a2), (7, .bool t4), (8, .slice Aa13 (l0.take (mnn (l0.length : Int) 40 : Int).toNat).length cc14), (9, .slice Aa23 (l1.take (mnn (l1.length : Int) 40 : Int).toNat).length cc24), (12, .slice Aa59 ((([] : List Int) ++ t30) ++ t39).length cc60)]) (by kernel_rfl) ?_ rfl
 clear hs; intro a hs
 refine go_end (by kernel_rfl) ?_
 refine hK46 _ _ ?_
 refine go_seq_k fun K64 hK64 => ?_
 refine go_region ?_
 refine go_pvs 0 6 [2, 7, 8, 9, 12, 38, 43] hs (L' := [(2, .string a2), (7, .bool t4), (8, .slice Aa13 (l0.take (mnn (l0.length : Int) 40 : Int).toNat).length cc14), (9, .slice Aa23 (l1.take (mnn (l1.length : Int) 40 : Int).toNat).length cc24), (12, .slice Aa59 ((([] : List Int) ++ t30) ++ t39).length cc60), (38, .slice Aa59 ((([] : List Int) ++ t30) ++ t39).length cc60), (43, .int .i64 (w64 (((l0.take (mnn (l0.length : Int) 40 : Int).toNat).length : Int) + ((l1.take (mnn (l1.length : Int) 40 : Int).toNat).length : Int))))]) (by kernel_rfl) ?_ rfl
 clear hs; intro a hs
 obtain ⟨⟨t66, t67⟩, hx68, H⟩ := bind_some H
 refine go_call hs (op := (Op.call { callee := (Callee.value (Operand.func 16)), args := #[(Operand.tmp 38), (Operand.tmp 43)], argTypes := #[22, 3] })) (ty := 33) (dst := some 44) (g := none) (by kernel_rfl) (by kernel_rfl) (by kernel_rfl) (f := 16) (args := #[.slice Aa59 ((([] : List Int) ++ t30) ++ t39).length cc60, .int .i64 (w64 (((l0.take (mnn (l0.length : Int) 40 : Int).toNat).length : Int) + ((l1.take (mnn (l1.length : Int) 40 : Int).toNat).length : Int)))]) (by kernel_rfl) (le_Take.calls Aa59 cc60 ((([] : List Int) ++ t30) ++ t39) (w64 (((l0.take (mnn (l0.length : Int) 40 : Int).toNat).length : Int) + ((l1.take (mnn (l1.length : Int) 40 : Int).toNat).length : Int))) (t66, t67) _ (Rd.of_own (hw.up 0)) hx68) ?_
 rintro e wd71 ⟨Aa69, cc70, rfl, hw72⟩
 refine ⟨_, rfl, ?_⟩
 replace hw := hw.call hw72
 intro a hs1
 replace hs : Slots a 141 [(2, .string a2), (7, .bool t4), (8, .slice Aa13 (l0.take (mnn (l0.length : Int) 40 : Int).toNat).length cc14), (9, .slice Aa23 (l1.take (mnn (l1.length : Int) 40 : Int).toNat).length cc24), (12, .slice Aa59 ((([] : List Int) ++ t30) ++ t39).length cc60), (44, .tuple #[.slice Aa69 t66.length cc70, .int .i64 t67])] := hs1.keep [2, 7, 8, 9, 12, 44] (by kernel_rfl)
 clear hs1
 refine go_pvs 7 12 [2, 7, 8, 9, 12, 13, 14] hs (L' := [(2, .string a2), (7, .bool t4), (8, .slice Aa13 (l0.take (mnn (l0.length : Int) 40 : Int).toNat).length cc14), (9, .slice Aa23 (l1.take (mnn (l1.length : Int) 40 : Int).toNat).length cc24), (12, .slice Aa59 ((([] : List Int) ++ t30) ++ t39).length cc60), (13, .slice Aa69 t66.length cc70), (14, .int .i64 t67)]) (by kernel_rfl) ?_ rfl
 clear hs; intro a hs
 refine go_end (by kernel_rfl) ?_
 refine hK64 _ _ ?_
 refine go_seq_k fun K74 hK74 => ?_
 refine go_region ?_
 refine go_pvs 0 1 [2, 7, 8, 9, 12, 13, 14, 47] hs (L' := [(2, .string a2), (7, .bool t4), (8, .slice Aa13 (l0.take (mnn (l0.length : Int) 40 : Int).toNat).length cc14), (9, .slice Aa23 (l1.take (mnn (l1.length : Int) 40 : Int).toNat).length cc24), (12, .slice Aa59 ((([] : List Int) ++ t30) ++ t39).length cc60), (13, .slice Aa69 t66.length cc70), (14, .int .i64 t67), (47, .string a2)]) (by kernel_rfl) ?_ rfl
 clear hs; intro a hs
 obtain ⟨t76, hx77, H⟩ := bind_some H
 refine go_call hs (op := (Op.call { callee := (Callee.value (Operand.func 22)), args := #[(Operand.tmp 47)], argTypes := #[9] })) (ty := 9) (dst := some 48) (g := none) (by kernel_rfl) (by kernel_rfl) (by kernel_rfl) (f := 22) (args := #[.string a2]) (by kernel_rfl) (rivetref07_Fit.calls a2 t76 _ hx77) ?_
 rintro e wd78 ⟨rfl, hw79⟩
 refine ⟨_, rfl, ?_⟩
 replace hw := hw.call hw79
 intro a hs1
 replace hs : Slots a 141 [(2, .string a2), (7, .bool t4), (8, .slice Aa13 (l0.take (mnn (l0.length : Int) 40 : Int).toNat).length cc14), (9, .slice Aa23 (l1.take (mnn (l1.length : Int) 40 : Int).toNat).length cc24), (12, .slice Aa59 ((([] : List Int) ++ t30) ++ t39).length cc60), (13, .slice Aa69 t66.length cc70), (14, .int .i64 t67), (48, .string t76)] := hs1.keep [2, 7, 8, 9, 12, 13, 14, 48] (by kernel_rfl)
 clear hs1
 refine go_pvs 2 3 [2, 7, 8, 9, 12, 13, 14, 15] hs (L' := [(2, .string a2), (7, .bool t4), (8, .slice Aa13 (l0.take (mnn (l0.length : Int) 40 : Int).toNat).length cc14), (9, .slice Aa23 (l1.take (mnn (l1.length : Int) 40 : Int).toNat).length cc24), (12, .slice Aa59 ((([] : List Int) ++ t30) ++ t39).length cc60), (13, .slice Aa69 t66.length cc70), (14, .int .i64 t67), (15, .string t76)]) (by kernel_rfl) ?_ rfl
 clear hs; intro a hs
 refine go_end (by kernel_rfl) ?_
 refine hK74 _ _ ?_
 refine go_seq_k fun K80 hK80 => ?_
 refine go_region ?_
 refine go_pvs 0 1 [2, 7, 8, 9, 12, 13, 14, 15, 50] hs (L' := [(2, .string a2), (7, .bool t4), (8, .slice Aa13 (l0.take (mnn (l0.length : Int) 40 : Int).toNat).length cc14), (9, .slice Aa23 (l1.take (mnn (l1.length : Int) 40 : Int).toNat).length cc24), (12, .slice Aa59 ((([] : List Int) ++ t30) ++ t39).length cc60), (13, .slice Aa69 t66.length cc70), (14, .int .i64 t67), (15, .string t76), (50, .string t76)]) (by kernel_rfl) ?_ rfl
 clear hs; intro a hs
 obtain ⟨⟨t82, t83⟩, hx84, H⟩ := bind_some H
 refine go_call hs (op := (Op.call { callee := (Callee.value (Operand.func 9)), args := #[(Operand.tmp 50)], argTypes := #[9] })) (ty := 25) (dst := some 51) (g := none) (by kernel_rfl) (by kernel_rfl) (by kernel_rfl) (f := 9) (args := #[.string t76]) (by kernel_rfl) (le_PutName.calls t76 (t82, t83) _ hx84) ?_
 rintro e wd87 ⟨Aa85, cc86, rfl, hw88⟩
 refine ⟨_, rfl, ?_⟩
 replace hw := hw.call hw88
 intro a hs1
 replace hs : Slots a 141 [(2, .string a2), (7, .bool t4), (8, .slice Aa13 (l0.take (mnn (l0.length : Int) 40 : Int).toNat).length cc14), (9, .slice Aa23 (l1.take (mnn (l1.length : Int) 40 : Int).toNat).length cc24), (12, .slice Aa59 ((([] : List Int) ++ t30) ++ t39).length cc60), (13, .slice Aa69 t66.length cc70), (14, .int .i64 t67), (15, .string t76), (51, .tuple #[.slice Aa85 t82.length cc86, .int .i64 t83])] := hs1.keep [2, 7, 8, 9, 12, 13, 14, 15, 51] (by kernel_rfl)
 clear hs1
 refine go_pvs 2 7 [2, 7, 8, 9, 12, 13, 14, 15, 16, 17] hs (L' := [(2, .string a2), (7, .bool t4), (8, .slice Aa13 (l0.take (mnn (l0.length : Int) 40 : Int).toNat).length cc14), (9, .slice Aa23 (l1.take (mnn (l1.length : Int) 40 : Int).toNat).length cc24), (12, .slice Aa59 ((([] : List Int) ++ t30) ++ t39).length cc60), (13, .slice Aa69 t66.length cc70), (14, .int .i64 t67), (15, .string t76), (16, .slice Aa85 t82.length cc86), (17, .int .i64 t83)]) (by kernel_rfl) ?_ rfl
 clear hs; intro a hs
 refine go_end (by kernel_rfl) ?_
 refine hK80 _ _ ?_
 refine go_seq_k fun K90 hK90 => ?_
 have hJ2 : ∀ (a : Act) (w : World), Slots a 141 [(2, .string a2), (8, .slice Aa13 (l0.take (mnn (l0.length : Int) 40 : Int).toNat).length cc14), (9, .slice Aa23 (l1.take (mnn (l1.length : Int) 40 : Int).toNat).length cc24), (12, .slice Aa59 ((([] : List Int) ++ t30) ++ t39).length cc60), (13, .slice Aa69 t66.length cc70), (15, .string t76), (16, .slice Aa85 t82.length cc86)] → St [] w0 w [own 5 (eI .u8) Aa85 cc86 t82, own 43 (eI .u32) Aa69 cc70 t66, own 5 (eI .u8) Aa59 cc60 ((([] : List Int) ++ t30) ++ t39), own 5 (eI .u8) Aa41 cc42 t39, own 5 (eI .u8) Aa32 cc33 t30] → rivetlaw07_LeJoins.j2 t76 t82 a2 l0 l1 t66 t30 t39 = some r → K90 a w := by
  intro a w hs hw H
  unfold rivetlaw07_LeJoins.j2 at H
  refine hK90 _ _ ?_
  refine go_seq_k fun K109 hK109 => ?_
  refine go_seq_k fun K110 hK110 => ?_
  refine go_region ?_
  refine go_pvs 0 4 [2, 8, 9, 12, 13, 16, 18] hs (L' := [(2, .string a2), (8, .slice Aa13 (l0.take (mnn (l0.length : Int) 40 : Int).toNat).length cc14), (9, .slice Aa23 (l1.take (mnn (l1.length : Int) 40 : Int).toNat).length cc24), (12, .slice Aa59 ((([] : List Int) ++ t30) ++ t39).length cc60), (13, .slice Aa69 t66.length cc70), (16, .slice Aa85 t82.length cc86), (18, .int .i64 (w64 (1 + (t76.size : Int))))]) (by kernel_rfl) ?_ rfl
  clear hs; intro a hs
  obtain ⟨y111, hy111, H⟩ := nm_some H
  replace hs : Slots a 141 [(2, .string a2), (8, .slice Aa13 (l0.take (mnn (l0.length : Int) 40 : Int).toNat).length cc14), (9, .slice Aa23 (l1.take (mnn (l1.length : Int) 40 : Int).toNat).length cc24), (12, .slice Aa59 ((([] : List Int) ++ t30) ++ t39).length cc60), (13, .slice Aa69 t66.length cc70), (16, .slice Aa85 t82.length cc86), (18, .int .i64 y111)] := by rw [hy111]; exact hs
  refine go_end (by kernel_rfl) ?_
  refine hK110 _ _ ?_
  refine wp_block ?_
  obtain ⟨e112, hl112, HX112⟩ := bind_some H
  have hJ5 : ∀ (a : Act) (w : World), Slots a 141 [(8, .slice Aa13 (l0.take (mnn (l0.length : Int) 40 : Int).toNat).length cc14), (9, .slice Aa23 (l1.take (mnn (l1.length : Int) 40 : Int).toNat).length cc24), (12, .slice Aa59 ((([] : List Int) ++ t30) ++ t39).length cc60), (13, .slice Aa69 t66.length cc70)] → St [] w0 w [own 5 (eI .u8) Aa85 cc86 t82, own 43 (eI .u32) Aa69 cc70 t66, own 5 (eI .u8) Aa59 cc60 ((([] : List Int) ++ t30) ++ t39), own 5 (eI .u8) Aa41 cc42 t39, own 5 (eI .u8) Aa32 cc33 t30] → rivetlaw07_LeJoins.j5 l0 l1 t66 t30 t39 = some r → K109 a w := by
   intro a w hs hw H
   unfold rivetlaw07_LeJoins.j5 at H
   refine hK109 _ _ ?_
   refine go_seq_k fun K152 hK152 => ?_
   have hJ6 : ∀ (v184 : Bool) (a : Act) (w : World), Slots a 141 [(6, .bool v184)] → St [] w0 w [own 5 (eI .u8) Aa85 cc86 t82, own 43 (eI .u32) Aa69 cc70 t66, own 5 (eI .u8) Aa59 cc60 ((([] : List Int) ++ t30) ++ t39), own 5 (eI .u8) Aa41 cc42 t39, own 5 (eI .u8) Aa32 cc33 t30] → rivetlaw07_LeJoins.j6 v184 = some r → K152 a w := by
    intro v184 a w hs hw H
    unfold rivetlaw07_LeJoins.j6 at H
    refine hK152 _ _ ?_
    refine wp_ret ?_
    obtain rfl := Option.some.inj H
    refine ret1 (t := 6) (v := .bool v184) hs (by kernel_rfl) (by kernel_rfl) ?_
    exact ⟨rfl, hw.only 0⟩
   refine c_region [(false, [0, 2, 4], 1), (false, [], 3), (false, [], 5), (true, [], 6), (true, [7, 8, 11, 12], 9)] [10, 13, 14, 15] (by kernel_rfl) (by kernel_rfl) (fun c a d v w h => by cases d <;> exact h) ?_
   refine c_seg0 ?_
   refine c_pvs [0, 2, 4] [] [12, 13, 126, 128, 130] hs (L' := [(12, .slice Aa59 ((([] : List Int) ++ t30) ++ t39).length cc60), (13, .slice Aa69 t66.length cc70), (126, .slice Aa69 t66.length cc70), (128, .slice Aa13 (l0.take (mnn (l0.length : Int) 40 : Int).toNat).length cc14), (130, .slice Aa23 (l1.take (mnn (l1.length : Int) 40 : Int).toNat).length cc24)]) (by kernel_rfl) ?_ (by kernel_rfl)
   clear hs; intro a hs
   refine c_end ?_
   intro wq hbq
   replace hw := hw.behind hbq
   have hw0 := hw
   obtain ⟨Aa153, cc154, wd155, hx156, hw⟩ := n_lit0 (P := Tryd.prog) (t := 32) (ty := 32) (T := 43) hs hw (eI .u32) (by kernel_rfl) (by kernel_rfl)
   refine p_run hs (op := (Op.buildSlice 32 0 #[])) (ty := 32) (dst := some 127) (g := none) (by kernel_rfl) (by kernel_rfl) (by kernel_rfl) hx156 [12, 13, 126, 127, 128, 130] (L' := [(12, .slice Aa59 ((([] : List Int) ++ t30) ++ t39).length cc60), (13, .slice Aa69 t66.length cc70), (126, .slice Aa69 t66.length cc70), (127, .slice Aa153 ([] : List Int).length cc154), (128, .slice Aa13 (l0.take (mnn (l0.length : Int) 40 : Int).toNat).length cc14), (130, .slice Aa23 (l1.take (mnn (l1.length : Int) 40 : Int).toNat).length cc24)]) (by kernel_rfl) ?_
   clear hs; intro a hs
   refine c_done ⟨bl0 hw0 hw, ?_⟩
   clear hw0 hbq
   refine c_seg0 ?_
   refine c_end ?_
   intro wq hbq
   replace hw := hw.behind hbq
   have hw0 := hw
   obtain ⟨hp158, H⟩ := ite_only H
   have hsrc163 : Src Tryd.prog (eI .u32).sz 32 (.slice Aa13 (l0.take (mnn (l0.length : Int) 40 : Int).toNat).length cc14) (l0.take (mnn (l0.length : Int) 40 : Int).toNat).length ((l0.take (mnn (l0.length : Int) 40 : Int).toNat).flatMap (eI .u32).enc) _ := (Src.of_rd (E := (eI .u32)) (e' := 43) (by kernel_rfl) (hc16 _ (hr0.old hw)))
   obtain ⟨Aa159, cc160, wd161, hx162, hw⟩ := x_append (P := Tryd.prog) (t := 32) (tx := 32) (ty := 32) (x := (Operand.tmp 127)) (y := (Operand.tmp 128)) (z := .int .u32 0) (bytes := 4) (l2 := l0.take (mnn (l0.length : Int) 40 : Int).toNat) hs hw (by kernel_rfl) (by kernel_rfl) (by kernel_rfl) (by kernel_rfl) (by kernel_rfl) hsrc163 (by omega) (by omega)
   refine p_run hs (op := (Op.call { callee := (Callee.builtin Builtin.append), args := #[(Operand.tmp 127), (Operand.tmp 128)], argTypes := #[32, 32] })) (ty := 32) (dst := some 129) (g := none) (by kernel_rfl) (by kernel_rfl) (by kernel_rfl) hx162 [12, 13, 126, 129, 130] (L' := [(12, .slice Aa59 ((([] : List Int) ++ t30) ++ t39).length cc60), (13, .slice Aa69 t66.length cc70), (126, .slice Aa69 t66.length cc70), (129, .slice Aa159 (([] : List Int) ++ (l0.take (mnn (l0.length : Int) 40 : Int).toNat)).length cc160), (130, .slice Aa23 (l1.take (mnn (l1.length : Int) 40 : Int).toNat).length cc24)]) (by kernel_rfl) ?_
   clear hs; intro a hs
   refine c_done ⟨bl0 hw0 hw, ?_⟩
   clear hw0 hbq
   refine c_seg0 ?_
   refine c_end ?_
   intro wq hbq
   replace hw := hw.behind hbq
   have hw0 := hw
   obtain ⟨hp164, H⟩ := ite_only H
   have hsrc169 : Src Tryd.prog (eI .u32).sz 32 (.slice Aa23 (l1.take (mnn (l1.length : Int) 40 : Int).toNat).length cc24) (l1.take (mnn (l1.length : Int) 40 : Int).toNat).length ((l1.take (mnn (l1.length : Int) 40 : Int).toNat).flatMap (eI .u32).enc) _ := (Src.of_rd (E := (eI .u32)) (e' := 43) (by kernel_rfl) (hc26 _ (hr1.old hw)))
   obtain ⟨Aa165, cc166, wd167, hx168, hw⟩ := x_append (P := Tryd.prog) (t := 32) (tx := 32) (ty := 32) (x := (Operand.tmp 129)) (y := (Operand.tmp 130)) (z := .int .u32 0) (bytes := 4) (l2 := l1.take (mnn (l1.length : Int) 40 : Int).toNat) hs hw (by kernel_rfl) (by kernel_rfl) (by kernel_rfl) (by kernel_rfl) (by kernel_rfl) hsrc169 (by omega) (by omega)
   refine p_run hs (op := (Op.call { callee := (Callee.builtin Builtin.append), args := #[(Operand.tmp 129), (Operand.tmp 130)], argTypes := #[32, 32] })) (ty := 32) (dst := some 131) (g := none) (by kernel_rfl) (by kernel_rfl) (by kernel_rfl) hx168 [12, 13, 126, 131] (L' := [(12, .slice Aa59 ((([] : List Int) ++ t30) ++ t39).length cc60), (13, .slice Aa69 t66.length cc70), (126, .slice Aa69 t66.length cc70), (131, .slice Aa165 ((([] : List Int) ++ (l0.take (mnn (l0.length : Int) 40 : Int).toNat)) ++ (l1.take (mnn (l1.length : Int) 40 : Int).toNat)).length cc166)]) (by kernel_rfl) ?_
   clear hs; intro a hs
   refine c_done ⟨bl0 hw0 hw, ?_⟩
   clear hw0 hbq
   refine c_seg ?_
   refine c_end ?_
   intro wq hbq
   replace hw := hw.behind hbq
   have hbc := Below.refl wq.heap.size wq
   obtain ⟨t171, hx172, H⟩ := bind_some H
   refine p_call hs (op := (Op.call { callee := (Callee.value (Operand.func 18)), args := #[(Operand.tmp 126), (Operand.tmp 131)], argTypes := #[32, 32] })) (ty := 4) (dst := some 132) (g := none) (by kernel_rfl) (by kernel_rfl) (by kernel_rfl) (f := 18) (args := #[.slice Aa69 t66.length cc70, .slice Aa165 ((([] : List Int) ++ (l0.take (mnn (l0.length : Int) 40 : Int).toNat)) ++ (l1.take (mnn (l1.length : Int) 40 : Int).toNat)).length cc166]) (by kernel_rfl) (rivetref05_Same.calls Aa69 cc70 t66 Aa165 cc166 ((([] : List Int) ++ (l0.take (mnn (l0.length : Int) 40 : Int).toNat)) ++ (l1.take (mnn (l1.length : Int) 40 : Int).toNat)) t171 _ (Rd.of_own (hw.up 2)) (Rd.of_own (hw.up 0)) hx172) ?_
   rintro e wd173 ⟨rfl, hw174⟩
   refine ⟨_, rfl, ?_⟩
   replace hbc := hw174.below
   replace hw := hw.call hw174
   intro a hs1
   replace hs : Slots a 141 [(12, .slice Aa59 ((([] : List Int) ++ t30) ++ t39).length cc60), (13, .slice Aa69 t66.length cc70), (132, .bool t171)] := hs1.keep [12, 13, 132] (by kernel_rfl)
   clear hs1
   refine c_done ⟨bl_of hbq hbc, ?_⟩
   clear hbc hbq
   refine c_seg ?_
   refine c_pvs [7] [8, 11, 12] [12, 13, 133] hs (L' := [(12, .slice Aa59 ((([] : List Int) ++ t30) ++ t39).length cc60), (13, .slice Aa69 t66.length cc70), (133, .bool t171)]) (by kernel_rfl) ?_ (by kernel_rfl)
   clear hs; intro a hs
   cases hb175 : t171
   ·replace H := ite_f H (ff hb175)
    rw [hb175] at hs
    refine c_pvs [8, 11, 12] [] [133, 134, 138] hs (L' := [(133, .bool false), (134, undef), (138, undef)]) (by kernel_rfl) ?_ (by kernel_rfl)
    clear hs; intro a hs
    refine c_end ?_
    intro wq hbq
    replace hw := hw.behind hbq
    have hbc := Below.refl wq.heap.size wq
    refine p_pvs [9] [] [133, 135, 138] hs (L' := [(133, .bool false), (135, undef), (138, undef)]) (by kernel_rfl) ?_
    clear hs; intro a hs
    refine c_done ⟨bl_of hbq hbc, ?_⟩
    clear hbc hbq
    refine c_last ?_
    refine c_pvs [10, 13, 14, 15] [] [6] hs (L' := [(6, .bool false)]) (by kernel_rfl) ?_ (by kernel_rfl)
    clear hs; intro a hs
    refine c_end ?_
    intro wq hbq
    replace hw := hw.behind hbq
    replace hw := hw.up 5
    replace hw := hw.up 5
    replace hw := hw.up 5
    replace hw := hw.up 5
    replace hw := hw.up 5
    replace hw := hw.only 5
    exact hJ6 false _ _ (hs.keep [6] (by kernel_rfl)) hw H
   ·replace H := ite_t H hb175
    rw [hb175] at hs
    refine c_pvs [8, 11] [12] [133, 134, 137] hs (L' := [(133, .bool true), (134, .slice Aa69 t66.length cc70), (137, .slice Aa59 ((([] : List Int) ++ t30) ++ t39).length cc60)]) (by kernel_rfl) ?_ (by kernel_rfl)
    clear hs; intro a hs
    refine c_run hs (op := (Op.convert 22 9 (Operand.tmp 137))) (ty := 9) (dst := some 138) (g := some (7, true)) (by kernel_rfl) (by kernel_rfl) (by kernel_rfl) (fun wx hbx => (x_conv (e := 5) (l := (([] : List Int) ++ t30) ++ t39) ((Rd.of_own (hw.up 3)).below hbx) (by kernel_rfl) (by kernel_rfl) (by kernel_rfl) (by kernel_rfl))) [133, 134, 138] (L' := [(133, .bool true), (134, .slice Aa69 t66.length cc70), (138, .string (strOfNums ((([] : List Int) ++ t30) ++ t39)))]) (by kernel_rfl) ?_
    clear hs; intro a hs
    refine c_end ?_
    intro wq hbq
    replace hw := hw.behind hbq
    have hbc := Below.refl wq.heap.size wq
    obtain ⟨t177, hx178, H⟩ := bind_some H
    refine p_call hs (op := (Op.call { callee := (Callee.value (Operand.func 19)), args := #[(Operand.tmp 134)], argTypes := #[32] })) (ty := 22) (dst := some 135) (g := some (7, true)) (by kernel_rfl) (by kernel_rfl) (by kernel_rfl) (f := 19) (args := #[.slice Aa69 t66.length cc70]) (by kernel_rfl) (le_Put.calls Aa69 cc70 t66 t177 _ (Rd.of_own (hw.up 2)) hx178) ?_
    rintro e wd181 ⟨Aa179, cc180, rfl, hw182⟩
    refine ⟨_, rfl, ?_⟩
    replace hbc := hw182.below
    replace hw := hw.call hw182
    intro a hs1
    replace hs : Slots a 141 [(133, .bool true), (135, .slice Aa179 t177.length cc180), (138, .string (strOfNums ((([] : List Int) ++ t30) ++ t39)))] := hs1.keep [133, 135, 138] (by kernel_rfl)
    clear hs1
    refine c_done ⟨bl_of hbq hbc, ?_⟩
    clear hbc hbq
    refine c_last ?_
    refine c_run hs (op := (Op.convert 22 9 (Operand.tmp 135))) (ty := 9) (dst := some 136) (g := some (7, true)) (by kernel_rfl) (by kernel_rfl) (by kernel_rfl) (fun wx hbx => (x_conv (e := 5) (l := t177) ((Rd.of_own (hw.up 0)).below hbx) (by kernel_rfl) (by kernel_rfl) (by kernel_rfl) (by kernel_rfl))) [133, 136, 138] (L' := [(133, .bool true), (136, .string (strOfNums t177)), (138, .string (strOfNums ((([] : List Int) ++ t30) ++ t39)))]) (by kernel_rfl) ?_
    clear hs; intro a hs
    refine c_pvs [13, 14, 15] [] [6] hs (L' := [(6, .bool ((strOfNums t177).toList == (strOfNums ((([] : List Int) ++ t30) ++ t39)).toList))]) (by kernel_rfl) ?_ (by kernel_rfl)
    clear hs; intro a hs
    refine c_end ?_
    intro wq hbq
    replace hw := hw.behind hbq
    replace hw := hw.up 6
    replace hw := hw.up 6
    replace hw := hw.up 6
    replace hw := hw.up 6
    replace hw := hw.up 6
    replace hw := hw.only 5
    exact hJ6 ((strOfNums t177).toList == (strOfNums ((([] : List Int) ++ t30) ++ t39)).toList) _ _ (hs.keep [6] (by kernel_rfl)) hw H
  clear H
  refine go_loop (σ := Int) (fun σ a w => Slots a 141 [(2, .string a2), (8, .slice Aa13 (l0.take (mnn (l0.length : Int) 40 : Int).toNat).length cc14), (9, .slice Aa23 (l1.take (mnn (l1.length : Int) 40 : Int).toNat).length cc24), (12, .slice Aa59 ((([] : List Int) ++ t30) ++ t39).length cc60), (13, .slice Aa69 t66.length cc70), (16, .slice Aa85 t82.length cc86), (18, .int .i64 σ)] ∧ St [] w0 w [own 5 (eI .u8) Aa85 cc86 t82, own 43 (eI .u32) Aa69 cc70 t66, own 5 (eI .u8) Aa59 cc60 ((([] : List Int) ++ t30) ++ t39), own 5 (eI .u8) Aa41 cc42 t39, own 5 (eI .u8) Aa32 cc33 t30]) hl112 (by exact ⟨hs.keep [2, 8, 9, 12, 13, 16, 18] (by kernel_rfl), hw⟩) ?_
  rintro v113 a w ⟨hs, hw⟩ o H hr112
  replace hs : Slots a 141 [(2, .string a2), (8, .slice Aa13 (l0.take (mnn (l0.length : Int) 40 : Int).toNat).length cc14), (9, .slice Aa23 (l1.take (mnn (l1.length : Int) 40 : Int).toNat).length cc24), (12, .slice Aa59 ((([] : List Int) ++ t30) ++ t39).length cc60), (13, .slice Aa69 t66.length cc70), (16, .slice Aa85 t82.length cc86), (18, .int .i64 v113)] := hs
  replace hw : St [] w0 w [own 5 (eI .u8) Aa85 cc86 t82, own 43 (eI .u32) Aa69 cc70 t66, own 5 (eI .u8) Aa59 cc60 ((([] : List Int) ++ t30) ++ t39), own 5 (eI .u8) Aa41 cc42 t39, own 5 (eI .u8) Aa32 cc33 t30] := hw
  replace H : rivetlaw07_LeJoins.b112 t82 a2 v113 = some o := H
  unfold rivetlaw07_LeJoins.b112 at H
  refine go_seq_k fun K114 hK114 => ?_
  refine go_seq_k fun K115 hK115 => ?_
  refine go_region ?_
  refine go_pvs 0 4 [2, 8, 9, 12, 13, 16, 18, 97] hs (L' := [(2, .string a2), (8, .slice Aa13 (l0.take (mnn (l0.length : Int) 40 : Int).toNat).length cc14), (9, .slice Aa23 (l1.take (mnn (l1.length : Int) 40 : Int).toNat).length cc24), (12, .slice Aa59 ((([] : List Int) ++ t30) ++ t39).length cc60), (13, .slice Aa69 t66.length cc70), (16, .slice Aa85 t82.length cc86), (18, .int .i64 v113), (97, .bool (decide (v113 < (t82.length : Int))))]) (by kernel_rfl) ?_ rfl
  clear hs; intro a hs
  refine go_end (by kernel_rfl) ?_
  refine hK115 _ _ ?_
  refine go_cond hs (decide (v113 < (t82.length : Int))) (by kernel_rfl) (fun hc => ?_) (fun hc => ?_)
  ·replace H := ite_t H (of_decide_eq_true hc)
   have hb116 := hc
   rw [hb116] at hs
   refine wp_skip ?_
   refine hK114 _ _ ?_
   refine go_seq_k fun K117 hK117 => ?_
   have hJ4 : ∀ (a : Act) (w : World), Slots a 141 [(2, .string a2), (8, .slice Aa13 (l0.take (mnn (l0.length : Int) 40 : Int).toNat).length cc14), (9, .slice Aa23 (l1.take (mnn (l1.length : Int) 40 : Int).toNat).length cc24), (12, .slice Aa59 ((([] : List Int) ++ t30) ++ t39).length cc60), (13, .slice Aa69 t66.length cc70), (16, .slice Aa85 t82.length cc86), (18, .int .i64 v113)] → St [] w0 w [own 5 (eI .u8) Aa85 cc86 t82, own 43 (eI .u32) Aa69 cc70 t66, own 5 (eI .u8) Aa59 cc60 ((([] : List Int) ++ t30) ++ t39), own 5 (eI .u8) Aa41 cc42 t39, own 5 (eI .u8) Aa32 cc33 t30] → rivetlaw07_LeJoins.j4 v113 = some o → K117 a w := by
    intro a w hs hw H
    unfold rivetlaw07_LeJoins.j4 at H
    refine hK117 _ _ ?_
    refine go_region ?_
    refine go_pvs 0 3 [2, 8, 9, 12, 13, 16, 18] hs (L' := [(2, .string a2), (8, .slice Aa13 (l0.take (mnn (l0.length : Int) 40 : Int).toNat).length cc14), (9, .slice Aa23 (l1.take (mnn (l1.length : Int) 40 : Int).toNat).length cc24), (12, .slice Aa59 ((([] : List Int) ++ t30) ++ t39).length cc60), (13, .slice Aa69 t66.length cc70), (16, .slice Aa85 t82.length cc86), (18, .int .i64 (w64 (v113 + 1)))]) (by kernel_rfl) ?_ rfl
    clear hs; intro a hs
    refine go_end (by kernel_rfl) ?_
    replace hw := hw.up 4
    replace hw := hw.up 4
    replace hw := hw.up 4
    replace hw := hw.up 4
    replace hw := hw.up 4
    replace hw := hw.only 5
    exact round_end (w64 (v113 + 1)) (Option.some.inj H).symm ⟨hs.keep [2, 8, 9, 12, 13, 16, 18] (by kernel_rfl), hw⟩
   refine wp_block ?_
   refine go_seq_k fun K118 hK118 => ?_
   refine go_region ?_
   obtain ⟨Aa119, cc120, wd121, hx122, hw⟩ := n_lit0 (P := Tryd.prog) (t := 22) (ty := 22) (T := 5) hs hw (eI .u8) (by kernel_rfl) (by kernel_rfl)
   refine go_run hs (op := (Op.buildSlice 22 0 #[])) (ty := 22) (dst := some 100) (g := none) (by kernel_rfl) (by kernel_rfl) (by kernel_rfl) hx122 [2, 8, 9, 12, 13, 16, 18, 100] (L' := [(2, .string a2), (8, .slice Aa13 (l0.take (mnn (l0.length : Int) 40 : Int).toNat).length cc14), (9, .slice Aa23 (l1.take (mnn (l1.length : Int) 40 : Int).toNat).length cc24), (12, .slice Aa59 ((([] : List Int) ++ t30) ++ t39).length cc60), (13, .slice Aa69 t66.length cc70), (16, .slice Aa85 t82.length cc86), (18, .int .i64 v113), (100, .slice Aa119 ([] : List Int).length cc120)]) (by kernel_rfl) ?_
   clear hs; intro a hs
   refine go_pvs 1 2 [2, 8, 9, 12, 13, 16, 18, 100, 101] hs (L' := [(2, .string a2), (8, .slice Aa13 (l0.take (mnn (l0.length : Int) 40 : Int).toNat).length cc14), (9, .slice Aa23 (l1.take (mnn (l1.length : Int) 40 : Int).toNat).length cc24), (12, .slice Aa59 ((([] : List Int) ++ t30) ++ t39).length cc60), (13, .slice Aa69 t66.length cc70), (16, .slice Aa85 t82.length cc86), (18, .int .i64 v113), (100, .slice Aa119 ([] : List Int).length cc120), (101, .slice Aa85 t82.length cc86)]) (by kernel_rfl) ?_ rfl
   clear hs; intro a hs
   obtain ⟨hp124, H⟩ := ite_only H
   have hsrc129 : Src Tryd.prog (eI .u8).sz 22 (.slice Aa85 t82.length cc86) t82.length (t82.flatMap (eI .u8).enc) _ := (Src.of_rd (E := (eI .u8)) (e' := 5) (by kernel_rfl) (Rd.of_own (hw.up 1)))
   obtain ⟨Aa125, cc126, wd127, hx128, hw⟩ := x_append (P := Tryd.prog) (t := 22) (tx := 22) (ty := 22) (x := (Operand.tmp 100)) (y := (Operand.tmp 101)) (z := .int .u8 0) (bytes := 1) (l2 := t82) hs hw (by kernel_rfl) (by kernel_rfl) (by kernel_rfl) (by kernel_rfl) (by kernel_rfl) hsrc129 (by omega) (by omega)
   refine go_run hs (op := (Op.call { callee := (Callee.builtin Builtin.append), args := #[(Operand.tmp 100), (Operand.tmp 101)], argTypes := #[22, 22] })) (ty := 22) (dst := some 102) (g := none) (by kernel_rfl) (by kernel_rfl) (by kernel_rfl) hx128 [2, 8, 9, 12, 13, 16, 18, 102] (L' := [(2, .string a2), (8, .slice Aa13 (l0.take (mnn (l0.length : Int) 40 : Int).toNat).length cc14), (9, .slice Aa23 (l1.take (mnn (l1.length : Int) 40 : Int).toNat).length cc24), (12, .slice Aa59 ((([] : List Int) ++ t30) ++ t39).length cc60), (13, .slice Aa69 t66.length cc70), (16, .slice Aa85 t82.length cc86), (18, .int .i64 v113), (102, .slice Aa125 (([] : List Int) ++ t82).length cc126)]) (by kernel_rfl) ?_
   clear hs; intro a hs
   refine go_pvs 3 4 [2, 8, 9, 12, 13, 16, 18, 19] hs (L' := [(2, .string a2), (8, .slice Aa13 (l0.take (mnn (l0.length : Int) 40 : Int).toNat).length cc14), (9, .slice Aa23 (l1.take (mnn (l1.length : Int) 40 : Int).toNat).length cc24), (12, .slice Aa59 ((([] : List Int) ++ t30) ++ t39).length cc60), (13, .slice Aa69 t66.length cc70), (16, .slice Aa85 t82.length cc86), (18, .int .i64 v113), (19, .slice Aa125 (([] : List Int) ++ t82).length cc126)]) (by kernel_rfl) ?_ rfl
   clear hs; intro a hs
   refine go_end (by kernel_rfl) ?_
   refine hK118 _ _ ?_
   refine go_seq_k fun K130 hK130 => ?_
   refine go_region ?_
   refine go_pvs 0 7 [2, 8, 9, 12, 13, 16, 18, 19, 103, 104, 109] hs (L' := [(2, .string a2), (8, .slice Aa13 (l0.take (mnn (l0.length : Int) 40 : Int).toNat).length cc14), (9, .slice Aa23 (l1.take (mnn (l1.length : Int) 40 : Int).toNat).length cc24), (12, .slice Aa59 ((([] : List Int) ++ t30) ++ t39).length cc60), (13, .slice Aa69 t66.length cc70), (16, .slice Aa85 t82.length cc86), (18, .int .i64 v113), (19, .slice Aa125 (([] : List Int) ++ t82).length cc126), (103, .slice Aa125 (([] : List Int) ++ t82).length cc126), (104, .int .i64 v113), (109, .int .u8 (wu8 (1 + (wu8 ((a2.size : Int).tmod 255)))))]) (by kernel_rfl) ?_ rfl
   clear hs; intro a hs
   obtain ⟨hp131, H⟩ := ite_only H
   obtain ⟨ad132, rfl⟩ := (Rd.of_own (hw.up 0)).some hp131.1 hp131.2
   refine go_run hs (op := (Op.indexAddr 22 (Operand.tmp 103) (Operand.tmp 104))) (ty := 0) (dst := some 110) (g := none) (by kernel_rfl) (by kernel_rfl) (by kernel_rfl) (x_idx (T := 5) (sz := 1) (a := ad132) (n := (([] : List Int) ++ t82).length) (cap := cc126) (k := .i64) (i := v113) (by kernel_rfl) (by kernel_rfl) (by kernel_rfl) (by kernel_rfl) hp131.1 hp131.2) [2, 8, 9, 12, 13, 16, 18, 19, 109, 110] (L' := [(2, .string a2), (8, .slice Aa13 (l0.take (mnn (l0.length : Int) 40 : Int).toNat).length cc14), (9, .slice Aa23 (l1.take (mnn (l1.length : Int) 40 : Int).toNat).length cc24), (12, .slice Aa59 ((([] : List Int) ++ t30) ++ t39).length cc60), (13, .slice Aa69 t66.length cc70), (16, .slice Aa85 t82.length cc86), (18, .int .i64 v113), (19, .slice (some ad132) (([] : List Int) ++ t82).length cc126), (109, .int .u8 (wu8 (1 + (wu8 ((a2.size : Int).tmod 255))))), (110, .pointer (some (ad132.add (v113.toNat * 1))))]) (by kernel_rfl) ?_
   clear hs; intro a hs
   obtain ⟨wd133, hx134, hw⟩ := x_put (P := Tryd.prog) (ty := 0) (t := 5) (x := (Operand.tmp 110)) (y := (Operand.tmp 109)) (off := 0) (p := ad132.add (v113.toNat * 1)) (v := .int .u8 (wu8 (1 + (wu8 ((a2.size : Int).tmod 255))))) (vs := [.int .u8 (wu8 (1 + (wu8 ((a2.size : Int).tmod 255))))]) (i := v113) (e' := (wu8 (1 + (wu8 ((a2.size : Int).tmod 255))) : Int)) hs hw rfl hp131.1 hp131.2 (by kernel_rfl) rfl (by kernel_rfl) rfl (by kernel_rfl) (Nat.le_of_ble_eq_true rfl) (by simp [Value.oneCell']) (by kernel_rfl)
   refine go_unit hs (op := (Op.store 5 (Operand.tmp 110) (Operand.tmp 109))) (ty := 0) (dst := none) (g := none) (by kernel_rfl) (by kernel_rfl) (by kernel_rfl) hx134 [2, 8, 9, 12, 13, 16, 18, 19] (L' := [(2, .string a2), (8, .slice Aa13 (l0.take (mnn (l0.length : Int) 40 : Int).toNat).length cc14), (9, .slice Aa23 (l1.take (mnn (l1.length : Int) 40 : Int).toNat).length cc24), (12, .slice Aa59 ((([] : List Int) ++ t30) ++ t39).length cc60), (13, .slice Aa69 t66.length cc70), (16, .slice Aa85 t82.length cc86), (18, .int .i64 v113), (19, .slice (some ad132) (([] : List Int) ++ t82).length cc126)]) (by kernel_rfl) ?_
   clear hs; intro a hs
   replace hs : Slots a 141 [(2, .string a2), (8, .slice Aa13 (l0.take (mnn (l0.length : Int) 40 : Int).toNat).length cc14), (9, .slice Aa23 (l1.take (mnn (l1.length : Int) 40 : Int).toNat).length cc24), (12, .slice Aa59 ((([] : List Int) ++ t30) ++ t39).length cc60), (13, .slice Aa69 t66.length cc70), (16, .slice Aa85 t82.length cc86), (18, .int .i64 v113), (19, .slice (some ad132) ((([] : List Int) ++ t82).set (v113 : Int).toNat (wu8 (1 + (wu8 ((a2.size : Int).tmod 255))))).length cc126)] := by rw [show ((([] : List Int) ++ t82).set (v113 : Int).toNat (wu8 (1 + (wu8 ((a2.size : Int).tmod 255))))).length = (([] : List Int) ++ t82).length from List.length_set]; exact hs
   refine go_end (by kernel_rfl) ?_
   refine hK130 _ _ ?_
   refine go_seq_k fun K135 hK135 => ?_
   refine go_region ?_
   refine go_pvs 0 1 [2, 8, 9, 12, 13, 16, 18, 112] hs (L' := [(2, .string a2), (8, .slice Aa13 (l0.take (mnn (l0.length : Int) 40 : Int).toNat).length cc14), (9, .slice Aa23 (l1.take (mnn (l1.length : Int) 40 : Int).toNat).length cc24), (12, .slice Aa59 ((([] : List Int) ++ t30) ++ t39).length cc60), (13, .slice Aa69 t66.length cc70), (16, .slice Aa85 t82.length cc86), (18, .int .i64 v113), (112, .slice (some ad132) ((([] : List Int) ++ t82).set (v113 : Int).toNat (wu8 (1 + (wu8 ((a2.size : Int).tmod 255))))).length cc126)]) (by kernel_rfl) ?_ rfl
   clear hs; intro a hs
   obtain ⟨⟨t137, t138, t139⟩, hx140, H⟩ := bind_some H
   refine go_call hs (op := (Op.call { callee := (Callee.value (Operand.func 11)), args := #[(Operand.tmp 112)], argTypes := #[22] })) (ty := 27) (dst := some 113) (g := none) (by kernel_rfl) (by kernel_rfl) (by kernel_rfl) (f := 11) (args := #[.slice (some ad132) ((([] : List Int) ++ t82).set (v113 : Int).toNat (wu8 (1 + (wu8 ((a2.size : Int).tmod 255))))).length cc126]) (by kernel_rfl) (le_TakeName.calls (some ad132) cc126 ((([] : List Int) ++ t82).set (v113 : Int).toNat (wu8 (1 + (wu8 ((a2.size : Int).tmod 255))))) (t137, t138, t139) _ (Rd.of_own (hw.up 0)) hx140) ?_
   rintro e wd141 ⟨rfl, hw142⟩
   refine ⟨_, rfl, ?_⟩
   replace hw := hw.call hw142
   intro a hs1
   replace hs : Slots a 141 [(2, .string a2), (8, .slice Aa13 (l0.take (mnn (l0.length : Int) 40 : Int).toNat).length cc14), (9, .slice Aa23 (l1.take (mnn (l1.length : Int) 40 : Int).toNat).length cc24), (12, .slice Aa59 ((([] : List Int) ++ t30) ++ t39).length cc60), (13, .slice Aa69 t66.length cc70), (16, .slice Aa85 t82.length cc86), (18, .int .i64 v113), (113, .tuple #[.string t137, .int .i64 t138, .int .i64 t139])] := hs1.keep [2, 8, 9, 12, 13, 16, 18, 113] (by kernel_rfl)
   clear hs1
   refine go_pvs 2 9 [2, 8, 9, 12, 13, 16, 18, 22] hs (L' := [(2, .string a2), (8, .slice Aa13 (l0.take (mnn (l0.length : Int) 40 : Int).toNat).length cc14), (9, .slice Aa23 (l1.take (mnn (l1.length : Int) 40 : Int).toNat).length cc24), (12, .slice Aa59 ((([] : List Int) ++ t30) ++ t39).length cc60), (13, .slice Aa69 t66.length cc70), (16, .slice Aa85 t82.length cc86), (18, .int .i64 v113), (22, .int .i64 t139)]) (by kernel_rfl) ?_ rfl
   clear hs; intro a hs
   refine go_end (by kernel_rfl) ?_
   refine hK135 _ _ ?_
   refine go_seq_k fun K143 hK143 => ?_
   have hJ3 : ∀ (v147 : Bool) (a : Act) (w : World), Slots a 141 [(2, .string a2), (8, .slice Aa13 (l0.take (mnn (l0.length : Int) 40 : Int).toNat).length cc14), (9, .slice Aa23 (l1.take (mnn (l1.length : Int) 40 : Int).toNat).length cc24), (12, .slice Aa59 ((([] : List Int) ++ t30) ++ t39).length cc60), (13, .slice Aa69 t66.length cc70), (16, .slice Aa85 t82.length cc86), (18, .int .i64 v113), (125, .bool v147)] → St [] w0 w [own 5 (eI .u8) (some ad132) cc126 ((([] : List Int) ++ t82).set (v113 : Int).toNat (wu8 (1 + (wu8 ((a2.size : Int).tmod 255))))), own 5 (eI .u8) Aa85 cc86 t82, own 43 (eI .u32) Aa69 cc70 t66, own 5 (eI .u8) Aa59 cc60 ((([] : List Int) ++ t30) ++ t39), own 5 (eI .u8) Aa41 cc42 t39, own 5 (eI .u8) Aa32 cc33 t30] → rivetlaw07_LeJoins.j3 v113 v147 = some o → K143 a w := by
    intro v147 a w hs hw H
    unfold rivetlaw07_LeJoins.j3 at H
    refine hK143 _ _ ?_
    refine go_cond hs v147 (by kernel_rfl) (fun hc => ?_) (fun hc => ?_)
    ·replace H := ite_t H hc
     have hb148 := hc
     rw [hb148] at hs
     refine go_seq_k fun K149 hK149 => ?_
     refine go_region ?_
     refine go_pvs 0 1 [6] hs (L' := [(6, .bool false)]) (by kernel_rfl) ?_ rfl
     clear hs; intro a hs
     refine go_end (by kernel_rfl) ?_
     refine hK149 _ _ ?_
     refine wp_ret ?_
     refine ib_ret ?_
     refine th_ret ?_
     refine th_ret ?_
     refine ib_ret ?_
     refine th_ret ?_
     rw [← hr112 _ (Option.some.inj H).symm] at HX112
     replace H : some false = some r := HX112
     obtain rfl := Option.some.inj H
     refine ret1 (t := 6) (v := .bool false) hs (by kernel_rfl) (by kernel_rfl) ?_
     exact ⟨rfl, hw.only 0⟩
    ·replace H := ite_f H (ff hc)
     have hb150 := hc
     rw [hb150] at hs
     refine wp_skip ?_
     refine ib_norm ?_
     replace hw := hw.up 5
     replace hw := hw.up 5
     replace hw := hw.up 5
     replace hw := hw.up 5
     replace hw := hw.up 5
     replace hw := hw.only 5
     exact hJ4 _ _ (hs.keep [2, 8, 9, 12, 13, 16, 18] (by kernel_rfl)) hw H
   refine go_region ?_
   refine go_pvs 0 2 [2, 8, 9, 12, 13, 16, 18, 22, 117, 118] hs (L' := [(2, .string a2), (8, .slice Aa13 (l0.take (mnn (l0.length : Int) 40 : Int).toNat).length cc14), (9, .slice Aa23 (l1.take (mnn (l1.length : Int) 40 : Int).toNat).length cc24), (12, .slice Aa59 ((([] : List Int) ++ t30) ++ t39).length cc60), (13, .slice Aa69 t66.length cc70), (16, .slice Aa85 t82.length cc86), (18, .int .i64 v113), (22, .int .i64 t139), (117, .slice Aa85 t82.length cc86), (118, .int .i64 v113)]) (by kernel_rfl) ?_ rfl
   clear hs; intro a hs
   obtain ⟨hp144, H⟩ := ite_only H
   obtain ⟨ad145, rfl⟩ := (Rd.of_own (hw.up 1)).some hp144.1 hp144.2
   refine go_run hs (op := (Op.indexAddr 22 (Operand.tmp 117) (Operand.tmp 118))) (ty := 0) (dst := some 119) (g := none) (by kernel_rfl) (by kernel_rfl) (by kernel_rfl) (x_idx (T := 5) (sz := 1) (a := ad145) (n := t82.length) (cap := cc86) (k := .i64) (i := v113) (by kernel_rfl) (by kernel_rfl) (by kernel_rfl) (by kernel_rfl) hp144.1 hp144.2) [2, 8, 9, 12, 13, 16, 18, 22, 119] (L' := [(2, .string a2), (8, .slice Aa13 (l0.take (mnn (l0.length : Int) 40 : Int).toNat).length cc14), (9, .slice Aa23 (l1.take (mnn (l1.length : Int) 40 : Int).toNat).length cc24), (12, .slice Aa59 ((([] : List Int) ++ t30) ++ t39).length cc60), (13, .slice Aa69 t66.length cc70), (16, .slice (some ad145) t82.length cc86), (18, .int .i64 v113), (22, .int .i64 t139), (119, .pointer (some (ad145.add (v113.toNat * 1))))]) (by kernel_rfl) ?_
   clear hs; intro a hs
   refine go_run hs (op := (Op.load 5 (Operand.tmp 119))) (ty := 5) (dst := some 120) (g := none) (by kernel_rfl) (by kernel_rfl) (by kernel_rfl) (x_ld (E := (eI .u8)) (off := 0) (p := ad145.add (v113.toNat * 1)) (v := .int .u8 (ix (eI .u8).d t82 v113)) (Rd.of_own (hw.up 1)) hp144.1 hp144.2 (by kernel_rfl) rfl (by kernel_rfl) (by kernel_rfl)) [2, 8, 9, 12, 13, 16, 18, 22, 120] (L' := [(2, .string a2), (8, .slice Aa13 (l0.take (mnn (l0.length : Int) 40 : Int).toNat).length cc14), (9, .slice Aa23 (l1.take (mnn (l1.length : Int) 40 : Int).toNat).length cc24), (12, .slice Aa59 ((([] : List Int) ++ t30) ++ t39).length cc60), (13, .slice Aa69 t66.length cc70), (16, .slice (some ad145) t82.length cc86), (18, .int .i64 v113), (22, .int .i64 t139), (120, .int .u8 (ix (eI .u8).d t82 v113))]) (by kernel_rfl) ?_
   clear hs; intro a hs
   refine go_pvs 4 6 [2, 8, 9, 12, 13, 16, 18, 22, 122] hs (L' := [(2, .string a2), (8, .slice Aa13 (l0.take (mnn (l0.length : Int) 40 : Int).toNat).length cc14), (9, .slice Aa23 (l1.take (mnn (l1.length : Int) 40 : Int).toNat).length cc24), (12, .slice Aa59 ((([] : List Int) ++ t30) ++ t39).length cc60), (13, .slice Aa69 t66.length cc70), (16, .slice (some ad145) t82.length cc86), (18, .int .i64 v113), (22, .int .i64 t139), (122, .bool ((ix (eI .u8).d t82 v113) != 0))]) (by kernel_rfl) ?_ rfl
   clear hs; intro a hs
   cases hb146 : ((ix (eI .u8).d t82 v113) != 0)
   ·replace H := ite_t H (bne_eq_false_iff_eq.1 hb146)
    rw [hb146] at hs
    refine go_pvs 6 9 [2, 8, 9, 12, 13, 16, 18, 125] hs (L' := [(2, .string a2), (8, .slice Aa13 (l0.take (mnn (l0.length : Int) 40 : Int).toNat).length cc14), (9, .slice Aa23 (l1.take (mnn (l1.length : Int) 40 : Int).toNat).length cc24), (12, .slice Aa59 ((([] : List Int) ++ t30) ++ t39).length cc60), (13, .slice Aa69 t66.length cc70), (16, .slice (some ad145) t82.length cc86), (18, .int .i64 v113), (125, .bool (t139 != 6))]) (by kernel_rfl) ?_ rfl
    clear hs; intro a hs
    refine go_end (by kernel_rfl) ?_
    replace hw := hw.up 5
    replace hw := hw.up 5
    replace hw := hw.up 5
    replace hw := hw.up 5
    replace hw := hw.up 5
    replace hw := hw.up 5
    replace hw := hw.only 6
    exact hJ3 (t139 != 6) _ _ (hs.keep [2, 8, 9, 12, 13, 16, 18, 125] (by kernel_rfl)) hw H
   ·replace H := ite_f H (bne_iff_ne.1 hb146)
    rw [hb146] at hs
    refine go_pvs 6 9 [2, 8, 9, 12, 13, 16, 18, 125] hs (L' := [(2, .string a2), (8, .slice Aa13 (l0.take (mnn (l0.length : Int) 40 : Int).toNat).length cc14), (9, .slice Aa23 (l1.take (mnn (l1.length : Int) 40 : Int).toNat).length cc24), (12, .slice Aa59 ((([] : List Int) ++ t30) ++ t39).length cc60), (13, .slice Aa69 t66.length cc70), (16, .slice (some ad145) t82.length cc86), (18, .int .i64 v113), (125, .bool true)]) (by kernel_rfl) ?_ rfl
    clear hs; intro a hs
    refine go_end (by kernel_rfl) ?_
    replace hw := hw.up 5
    replace hw := hw.up 5
    replace hw := hw.up 5
    replace hw := hw.up 5
    replace hw := hw.up 5
    replace hw := hw.up 5
    replace hw := hw.only 6
    exact hJ3 true _ _ (hs.keep [2, 8, 9, 12, 13, 16, 18, 125] (by kernel_rfl)) hw H
  ·replace H := ite_f H (of_decide_eq_false hc)
   have hb151 := hc
   rw [hb151] at hs
   refine wp_exit ?_
   refine th_exit ?_
   refine th_exit ?_
   refine in_block ?_
   replace hw := hw.up 4
   replace hw := hw.up 4
   replace hw := hw.up 4
   replace hw := hw.up 4
   replace hw := hw.up 4
   replace hw := hw.only 5
   rw [← hr112 _ (Option.some.inj H).symm] at HX112
   exact hJ5 _ _ (hs.keep [8, 9, 12, 13] (by kernel_rfl)) hw HX112
 refine go_seq_k fun K91 hK91 => ?_
 have hJ1 : ∀ (v105 : Bool) (a : Act) (w : World), Slots a 141 [(2, .string a2), (8, .slice Aa13 (l0.take (mnn (l0.length : Int) 40 : Int).toNat).length cc14), (9, .slice Aa23 (l1.take (mnn (l1.length : Int) 40 : Int).toNat).length cc24), (12, .slice Aa59 ((([] : List Int) ++ t30) ++ t39).length cc60), (13, .slice Aa69 t66.length cc70), (15, .string t76), (16, .slice Aa85 t82.length cc86), (90, .bool v105)] → St [] w0 w [own 5 (eI .u8) Aa85 cc86 t82, own 43 (eI .u32) Aa69 cc70 t66, own 5 (eI .u8) Aa59 cc60 ((([] : List Int) ++ t30) ++ t39), own 5 (eI .u8) Aa41 cc42 t39, own 5 (eI .u8) Aa32 cc33 t30] → rivetlaw07_LeJoins.j1 t76 t82 a2 l0 l1 t66 t30 t39 v105 = some r → K91 a w := by
  intro v105 a w hs hw H
  unfold rivetlaw07_LeJoins.j1 at H
  refine hK91 _ _ ?_
  refine go_cond hs v105 (by kernel_rfl) (fun hc => ?_) (fun hc => ?_)
  ·replace H := ite_t H hc
   have hb106 := hc
   rw [hb106] at hs
   refine go_seq_k fun K107 hK107 => ?_
   refine go_region ?_
   refine go_pvs 0 1 [6] hs (L' := [(6, .bool false)]) (by kernel_rfl) ?_ rfl
   clear hs; intro a hs
   refine go_end (by kernel_rfl) ?_
   refine hK107 _ _ ?_
   refine wp_ret ?_
   refine th_ret ?_
   obtain rfl := Option.some.inj H
   refine ret1 (t := 6) (v := .bool false) hs (by kernel_rfl) (by kernel_rfl) ?_
   exact ⟨rfl, hw.only 0⟩
  ·replace H := ite_f H (ff hc)
   have hb108 := hc
   rw [hb108] at hs
   refine wp_skip ?_
   replace hw := hw.up 4
   replace hw := hw.up 4
   replace hw := hw.up 4
   replace hw := hw.up 4
   replace hw := hw.up 4
   replace hw := hw.only 5
   exact hJ2 _ _ (hs.keep [2, 8, 9, 12, 13, 15, 16] (by kernel_rfl)) hw H
 refine go_region ?_
 refine go_pvs 0 3 [2, 8, 9, 12, 13, 14, 15, 16, 17, 56] hs (L' := [(2, .string a2), (8, .slice Aa13 (l0.take (mnn (l0.length : Int) 40 : Int).toNat).length cc14), (9, .slice Aa23 (l1.take (mnn (l1.length : Int) 40 : Int).toNat).length cc24), (12, .slice Aa59 ((([] : List Int) ++ t30) ++ t39).length cc60), (13, .slice Aa69 t66.length cc70), (14, .int .i64 t67), (15, .string t76), (16, .slice Aa85 t82.length cc86), (17, .int .i64 t83), (56, .bool (!t4))]) (by kernel_rfl) ?_ rfl
 clear hs; intro a hs
 cases hb92 : (!t4)
 ·replace H := ite_t H (nf hb92)
  rw [hb92] at hs
  refine go_pvs 3 7 [2, 8, 9, 12, 13, 15, 16, 17, 60] hs (L' := [(2, .string a2), (8, .slice Aa13 (l0.take (mnn (l0.length : Int) 40 : Int).toNat).length cc14), (9, .slice Aa23 (l1.take (mnn (l1.length : Int) 40 : Int).toNat).length cc24), (12, .slice Aa59 ((([] : List Int) ++ t30) ++ t39).length cc60), (13, .slice Aa69 t66.length cc70), (15, .string t76), (16, .slice Aa85 t82.length cc86), (17, .int .i64 t83), (60, .bool (t67 != 0))]) (by kernel_rfl) ?_ rfl
  clear hs; intro a hs
  cases hb93 : (t67 != 0)
  ·replace H := ite_t H (bne_eq_false_iff_eq.1 hb93)
   rw [hb93] at hs
   refine go_pvs 7 11 [2, 8, 9, 12, 13, 15, 16, 64] hs (L' := [(2, .string a2), (8, .slice Aa13 (l0.take (mnn (l0.length : Int) 40 : Int).toNat).length cc14), (9, .slice Aa23 (l1.take (mnn (l1.length : Int) 40 : Int).toNat).length cc24), (12, .slice Aa59 ((([] : List Int) ++ t30) ++ t39).length cc60), (13, .slice Aa69 t66.length cc70), (15, .string t76), (16, .slice Aa85 t82.length cc86), (64, .bool (t83 != 0))]) (by kernel_rfl) ?_ rfl
   clear hs; intro a hs
   cases hb94 : (t83 != 0)
   ·replace H := ite_t H (bne_eq_false_iff_eq.1 hb94)
    rw [hb94] at hs
    refine go_pvs 11 19 [2, 8, 9, 12, 13, 15, 16, 72] hs (L' := [(2, .string a2), (8, .slice Aa13 (l0.take (mnn (l0.length : Int) 40 : Int).toNat).length cc14), (9, .slice Aa23 (l1.take (mnn (l1.length : Int) 40 : Int).toNat).length cc24), (12, .slice Aa59 ((([] : List Int) ++ t30) ++ t39).length cc60), (13, .slice Aa69 t66.length cc70), (15, .string t76), (16, .slice Aa85 t82.length cc86), (72, .bool (decide ((t82.length : Int) < (w64 (1 + (t76.size : Int))))))]) (by kernel_rfl) ?_ rfl
    clear hs; intro a hs
    cases hb95 : (decide ((t82.length : Int) < (w64 (1 + (t76.size : Int)))))
    ·replace H := ite_f H (of_decide_eq_false hb95)
     rw [hb95] at hs
     refine go_pvs 19 20 [2, 8, 9, 12, 13, 15, 16, 72, 73] hs (L' := [(2, .string a2), (8, .slice Aa13 (l0.take (mnn (l0.length : Int) 40 : Int).toNat).length cc14), (9, .slice Aa23 (l1.take (mnn (l1.length : Int) 40 : Int).toNat).length cc24), (12, .slice Aa59 ((([] : List Int) ++ t30) ++ t39).length cc60), (13, .slice Aa69 t66.length cc70), (15, .string t76), (16, .slice Aa85 t82.length cc86), (72, .bool false), (73, .slice Aa85 t82.length cc86)]) (by kernel_rfl) ?_ rfl
     clear hs; intro a hs
     obtain ⟨hp96, H⟩ := ite_only H
     obtain ⟨ad97, rfl⟩ := (Rd.of_own (hw.up 0)).some hp96.1 hp96.2
     refine go_run hs (op := (Op.indexAddr 22 (Operand.tmp 73) (Operand.const (Value.int IntKind.i64 0)))) (ty := 0) (dst := some 74) (g := some (18, false)) (by kernel_rfl) (by kernel_rfl) (by kernel_rfl) (x_idx (T := 5) (sz := 1) (a := ad97) (n := t82.length) (cap := cc86) (k := .i64) (i := (0 : Int)) (by kernel_rfl) (by kernel_rfl) (by kernel_rfl) (by kernel_rfl) hp96.1 hp96.2) [2, 8, 9, 12, 13, 15, 16, 72, 74] (L' := [(2, .string a2), (8, .slice Aa13 (l0.take (mnn (l0.length : Int) 40 : Int).toNat).length cc14), (9, .slice Aa23 (l1.take (mnn (l1.length : Int) 40 : Int).toNat).length cc24), (12, .slice Aa59 ((([] : List Int) ++ t30) ++ t39).length cc60), (13, .slice Aa69 t66.length cc70), (15, .string t76), (16, .slice (some ad97) t82.length cc86), (72, .bool false), (74, .pointer (some (ad97.add (((0 : Int) : Int).toNat * 1))))]) (by kernel_rfl) ?_
     clear hs; intro a hs
     refine go_run hs (op := (Op.load 5 (Operand.tmp 74))) (ty := 5) (dst := some 75) (g := some (18, false)) (by kernel_rfl) (by kernel_rfl) (by kernel_rfl) (x_ld (E := (eI .u8)) (off := 0) (p := ad97.add (((0 : Int) : Int).toNat * 1)) (v := .int .u8 (ix (eI .u8).d t82 (0 : Int))) (Rd.of_own (hw.up 0)) hp96.1 hp96.2 (by kernel_rfl) rfl (by kernel_rfl) (by kernel_rfl)) [2, 8, 9, 12, 13, 15, 16, 72, 75] (L' := [(2, .string a2), (8, .slice Aa13 (l0.take (mnn (l0.length : Int) 40 : Int).toNat).length cc14), (9, .slice Aa23 (l1.take (mnn (l1.length : Int) 40 : Int).toNat).length cc24), (12, .slice Aa59 ((([] : List Int) ++ t30) ++ t39).length cc60), (13, .slice Aa69 t66.length cc70), (15, .string t76), (16, .slice (some ad97) t82.length cc86), (72, .bool false), (75, .int .u8 (ix (eI .u8).d t82 (0 : Int)))]) (by kernel_rfl) ?_
     clear hs; intro a hs
     refine go_pvs 22 28 [2, 8, 9, 12, 13, 15, 16, 81] hs (L' := [(2, .string a2), (8, .slice Aa13 (l0.take (mnn (l0.length : Int) 40 : Int).toNat).length cc14), (9, .slice Aa23 (l1.take (mnn (l1.length : Int) 40 : Int).toNat).length cc24), (12, .slice Aa59 ((([] : List Int) ++ t30) ++ t39).length cc60), (13, .slice Aa69 t66.length cc70), (15, .string t76), (16, .slice (some ad97) t82.length cc86), (81, .bool ((w64 (ix (eI .u8).d t82 (0 : Int))) != (t76.size : Int)))]) (by kernel_rfl) ?_ rfl
     clear hs; intro a hs
     cases hb98 : ((w64 (ix (eI .u8).d t82 (0 : Int))) != (t76.size : Int))
     ·replace H := ite_t H (bne_eq_false_iff_eq.1 hb98)
      rw [hb98] at hs
      refine go_pvs 28 32 [2, 8, 9, 12, 13, 15, 16, 81, 82, 85] hs (L' := [(2, .string a2), (8, .slice Aa13 (l0.take (mnn (l0.length : Int) 40 : Int).toNat).length cc14), (9, .slice Aa23 (l1.take (mnn (l1.length : Int) 40 : Int).toNat).length cc24), (12, .slice Aa59 ((([] : List Int) ++ t30) ++ t39).length cc60), (13, .slice Aa69 t66.length cc70), (15, .string t76), (16, .slice (some ad97) t82.length cc86), (81, .bool false), (82, .slice (some ad97) t82.length cc86), (85, .int .i64 (w64 (1 + (t76.size : Int))))]) (by kernel_rfl) ?_ rfl
      clear hs; intro a hs
      obtain ⟨hp99, H⟩ := ite_only H
      obtain ⟨Aa100, cc101, hx102, hc103⟩ := c_lohi (P := Tryd.prog) (ty := 22) (E := (eI .u8)) (T := 5) (t := 22) (x := (Operand.tmp 82)) (y := (Operand.const (Value.int IntKind.i64 1))) (k := .i64) (y' := (Operand.tmp 85)) (k' := .i64) hs (by kernel_rfl) (by kernel_rfl) (Rd.of_own (hw.up 0)) (by kernel_rfl) (by kernel_rfl) (by kernel_rfl) hp99.1 hp99.2.1 hp99.2.2
      refine go_run hs (op := (Op.slice 22 (Operand.tmp 82) (some (Operand.const (Value.int IntKind.i64 1))) (some (Operand.tmp 85)) none)) (ty := 22) (dst := some 86) (g := some (27, false)) (by kernel_rfl) (by kernel_rfl) (by kernel_rfl) hx102 [2, 8, 9, 12, 13, 15, 16, 81, 86] (L' := [(2, .string a2), (8, .slice Aa13 (l0.take (mnn (l0.length : Int) 40 : Int).toNat).length cc14), (9, .slice Aa23 (l1.take (mnn (l1.length : Int) 40 : Int).toNat).length cc24), (12, .slice Aa59 ((([] : List Int) ++ t30) ++ t39).length cc60), (13, .slice Aa69 t66.length cc70), (15, .string t76), (16, .slice (some ad97) t82.length cc86), (81, .bool false), (86, .slice Aa100 ((t82.take (w64 (1 + (t76.size : Int)) : Int).toNat).drop (1 : Int).toNat).length cc101)]) (by kernel_rfl) ?_
      clear hs; intro a hs
      refine go_run hs (op := (Op.convert 22 9 (Operand.tmp 86))) (ty := 9) (dst := some 87) (g := some (27, false)) (by kernel_rfl) (by kernel_rfl) (by kernel_rfl) (x_conv (e := 5) (l := (t82.take (w64 (1 + (t76.size : Int)) : Int).toNat).drop (1 : Int).toNat) (hc103 _ (Rd.of_own (hw.up 0))) (by kernel_rfl) (by kernel_rfl) (by kernel_rfl) (by kernel_rfl)) [2, 8, 9, 12, 13, 15, 16, 81, 87] (L' := [(2, .string a2), (8, .slice Aa13 (l0.take (mnn (l0.length : Int) 40 : Int).toNat).length cc14), (9, .slice Aa23 (l1.take (mnn (l1.length : Int) 40 : Int).toNat).length cc24), (12, .slice Aa59 ((([] : List Int) ++ t30) ++ t39).length cc60), (13, .slice Aa69 t66.length cc70), (15, .string t76), (16, .slice (some ad97) t82.length cc86), (81, .bool false), (87, .string (strOfNums ((t82.take (w64 (1 + (t76.size : Int)) : Int).toNat).drop (1 : Int).toNat)))]) (by kernel_rfl) ?_
      clear hs; intro a hs
      refine go_pvs 34 37 [2, 8, 9, 12, 13, 15, 16, 90] hs (L' := [(2, .string a2), (8, .slice Aa13 (l0.take (mnn (l0.length : Int) 40 : Int).toNat).length cc14), (9, .slice Aa23 (l1.take (mnn (l1.length : Int) 40 : Int).toNat).length cc24), (12, .slice Aa59 ((([] : List Int) ++ t30) ++ t39).length cc60), (13, .slice Aa69 t66.length cc70), (15, .string t76), (16, .slice (some ad97) t82.length cc86), (90, .bool (!((strOfNums ((t82.take (w64 (1 + (t76.size : Int)) : Int).toNat).drop (1 : Int).toNat)).toList == t76.toList)))]) (by kernel_rfl) ?_ rfl
      clear hs; intro a hs
      refine go_end (by kernel_rfl) ?_
      replace hw := hw.up 4
      replace hw := hw.up 4
      replace hw := hw.up 4
      replace hw := hw.up 4
      replace hw := hw.up 4
      replace hw := hw.only 5
      exact hJ1 (!((strOfNums ((t82.take (w64 (1 + (t76.size : Int)) : Int).toNat).drop (1 : Int).toNat)).toList == t76.toList)) _ _ (hs.keep [2, 8, 9, 12, 13, 15, 16, 90] (by kernel_rfl)) hw H
     ·replace H := ite_f H (bne_iff_ne.1 hb98)
      rw [hb98] at hs
      refine go_pvs 28 37 [2, 8, 9, 12, 13, 15, 16, 90] hs (L' := [(2, .string a2), (8, .slice Aa13 (l0.take (mnn (l0.length : Int) 40 : Int).toNat).length cc14), (9, .slice Aa23 (l1.take (mnn (l1.length : Int) 40 : Int).toNat).length cc24), (12, .slice Aa59 ((([] : List Int) ++ t30) ++ t39).length cc60), (13, .slice Aa69 t66.length cc70), (15, .string t76), (16, .slice (some ad97) t82.length cc86), (90, .bool true)]) (by kernel_rfl) ?_ rfl
      clear hs; intro a hs
      refine go_end (by kernel_rfl) ?_
      replace hw := hw.up 4
      replace hw := hw.up 4
      replace hw := hw.up 4
      replace hw := hw.up 4
      replace hw := hw.up 4
      replace hw := hw.only 5
      exact hJ1 true _ _ (hs.keep [2, 8, 9, 12, 13, 15, 16, 90] (by kernel_rfl)) hw H
    ·replace H := ite_t H (of_decide_eq_true hb95)
     rw [hb95] at hs
     refine go_pvs 19 37 [2, 8, 9, 12, 13, 15, 16, 90] hs (L' := [(2, .string a2), (8, .slice Aa13 (l0.take (mnn (l0.length : Int) 40 : Int).toNat).length cc14), (9, .slice Aa23 (l1.take (mnn (l1.length : Int) 40 : Int).toNat).length cc24), (12, .slice Aa59 ((([] : List Int) ++ t30) ++ t39).length cc60), (13, .slice Aa69 t66.length cc70), (15, .string t76), (16, .slice Aa85 t82.length cc86), (90, .bool true)]) (by kernel_rfl) ?_ rfl
     clear hs; intro a hs
     refine go_end (by kernel_rfl) ?_
     replace hw := hw.up 4
     replace hw := hw.up 4
     replace hw := hw.up 4
     replace hw := hw.up 4
     replace hw := hw.up 4
     replace hw := hw.only 5
     exact hJ1 true _ _ (hs.keep [2, 8, 9, 12, 13, 15, 16, 90] (by kernel_rfl)) hw H
   ·replace H := ite_f H (bne_iff_ne.1 hb94)
    rw [hb94] at hs
    refine go_pvs 11 37 [2, 8, 9, 12, 13, 15, 16, 90] hs (L' := [(2, .string a2), (8, .slice Aa13 (l0.take (mnn (l0.length : Int) 40 : Int).toNat).length cc14), (9, .slice Aa23 (l1.take (mnn (l1.length : Int) 40 : Int).toNat).length cc24), (12, .slice Aa59 ((([] : List Int) ++ t30) ++ t39).length cc60), (13, .slice Aa69 t66.length cc70), (15, .string t76), (16, .slice Aa85 t82.length cc86), (90, .bool true)]) (by kernel_rfl) ?_ rfl
    clear hs; intro a hs
    refine go_end (by kernel_rfl) ?_
    replace hw := hw.up 4
    replace hw := hw.up 4
    replace hw := hw.up 4
    replace hw := hw.up 4
    replace hw := hw.up 4
    replace hw := hw.only 5
    exact hJ1 true _ _ (hs.keep [2, 8, 9, 12, 13, 15, 16, 90] (by kernel_rfl)) hw H
  ·replace H := ite_f H (bne_iff_ne.1 hb93)
   rw [hb93] at hs
   refine go_pvs 7 37 [2, 8, 9, 12, 13, 15, 16, 90] hs (L' := [(2, .string a2), (8, .slice Aa13 (l0.take (mnn (l0.length : Int) 40 : Int).toNat).length cc14), (9, .slice Aa23 (l1.take (mnn (l1.length : Int) 40 : Int).toNat).length cc24), (12, .slice Aa59 ((([] : List Int) ++ t30) ++ t39).length cc60), (13, .slice Aa69 t66.length cc70), (15, .string t76), (16, .slice Aa85 t82.length cc86), (90, .bool true)]) (by kernel_rfl) ?_ rfl
   clear hs; intro a hs
   refine go_end (by kernel_rfl) ?_
   replace hw := hw.up 4
   replace hw := hw.up 4
   replace hw := hw.up 4
   replace hw := hw.up 4
   replace hw := hw.up 4
   replace hw := hw.only 5
   exact hJ1 true _ _ (hs.keep [2, 8, 9, 12, 13, 15, 16, 90] (by kernel_rfl)) hw H
 ·replace H := ite_f H (ff (nt hb92))
  rw [hb92] at hs
  refine go_pvs 3 37 [2, 8, 9, 12, 13, 15, 16, 90] hs (L' := [(2, .string a2), (8, .slice Aa13 (l0.take (mnn (l0.length : Int) 40 : Int).toNat).length cc14), (9, .slice Aa23 (l1.take (mnn (l1.length : Int) 40 : Int).toNat).length cc24), (12, .slice Aa59 ((([] : List Int) ++ t30) ++ t39).length cc60), (13, .slice Aa69 t66.length cc70), (15, .string t76), (16, .slice Aa85 t82.length cc86), (90, .bool true)]) (by kernel_rfl) ?_ rfl
  clear hs; intro a hs
  refine go_end (by kernel_rfl) ?_
  replace hw := hw.up 4
  replace hw := hw.up 4
  replace hw := hw.up 4
  replace hw := hw.up 4
  replace hw := hw.up 4
  replace hw := hw.only 5
  exact hJ1 true _ _ (hs.keep [2, 8, 9, 12, 13, 15, 16, 90] (by kernel_rfl)) hw H

end Go.Proofs.YtckefpenekolhaaDoor.T07
