/- YtckefpenekolhaaDoorT07zLeBack: Go functions told as plain ones, each with a proof that its call comes to what is told, part 1. Condition of each: that the plain function comes to a value. -/
import Derived.Test.YtckefpenekolhaaDoorT07
import Derived.Test.YtckefpenekolhaaDoorEL
import Derived.Test.YtckefpenekolhaaDoorProg
namespace Go.Proofs.YtckefpenekolhaaDoor.T07
open Go Go.RowKit Go.Proofs.YtckefpenekolhaaDoor.E
set_option linter.unusedVariables false
set_option linter.unusedSimpArgs false

/-! rivet/rivetlaw07.LeBack: function 5 -/
noncomputable def rivetlaw07_LeBack.j4 (v185 : Bool) : Option Bool := some v185
noncomputable def rivetlaw07_LeBack.j3 (t4 : Bool) (t20 : List Int) (l0 : List Int) (t56 : Int) (t55 : List Int) (t65 : ByteArray) (t72 : Int) (t109 : Int) (t107 : ByteArray) (t108 : Int) (t71 : List Int) (v162 : Int) : Option Bool := (if t4 = true then (if (t20.length : Int) = (w64 (4 * ((l0.take (mnn (l0.length : Int) 40 : Int).toNat).length : Int))) then (if t56 = 0 then ((rivetref05_Same t55 (l0.take (mnn (l0.length : Int) 40 : Int).toNat)).bind fun t168 => ((if t168 = true then ((le_Name t65).bind fun t174 => ((if t174 = true then (if t72 = 0 then (if t109 = 0 then (if (t107.toList == t65.toList) = true then (if t108 = (t71.length : Int) then (if ((t71.length : Int).tmod 4) = 0 then (if v162 = 3 then rivetlaw07_LeBack.j4 true else rivetlaw07_LeBack.j4 (((l0.take (mnn (l0.length : Int) 40 : Int).toNat).length : Int) == 0)) else rivetlaw07_LeBack.j4 false) else rivetlaw07_LeBack.j4 false) else rivetlaw07_LeBack.j4 false) else rivetlaw07_LeBack.j4 false) else rivetlaw07_LeBack.j4 false) else rivetlaw07_LeBack.j4 false))) else rivetlaw07_LeBack.j4 false))) else rivetlaw07_LeBack.j4 false) else rivetlaw07_LeBack.j4 false) else rivetlaw07_LeBack.j4 false)
noncomputable def rivetlaw07_LeBack.j2 (t20 : List Int) (l0 : List Int) (t4 : Bool) (t56 : Int) (t55 : List Int) (t65 : ByteArray) (t72 : Int) (t109 : Int) (t107 : ByteArray) (t108 : Int) (t71 : List Int) (v144 : Bool) : Option Bool := (if v144 = true then (if 0 ≤ (w64 ((t20.length : Int) - 1)) ∧ (w64 ((t20.length : Int) - 1)) ≤ (t20.length : Int) then ((le_Take (t20.take (w64 ((t20.length : Int) - 1) : Int).toNat) ((l0.take (mnn (l0.length : Int) 40 : Int).toNat).length : Int)).bind fun ⟨t153, t154⟩ => (rivetlaw07_LeBack.j3 t4 t20 l0 t56 t55 t65 t72 t109 t107 t108 t71 t154)) else none) else rivetlaw07_LeBack.j3 t4 t20 l0 t56 t55 t65 t72 t109 t107 t108 t71 0)
noncomputable def rivetlaw07_LeBack.j1 (l0 : List Int) (t20 : List Int) (t4 : Bool) (t56 : Int) (t55 : List Int) (t65 : ByteArray) (t72 : Int) (t109 : Int) (t107 : ByteArray) (t108 : Int) (t71 : List Int) : Option Bool := (if ((l0.take (mnn (l0.length : Int) 40 : Int).toNat).length : Int) > 0 then rivetlaw07_LeBack.j2 t20 l0 t4 t56 t55 t65 t72 t109 t107 t108 t71 (decide ((t20.length : Int) > 0)) else rivetlaw07_LeBack.j2 t20 l0 t4 t56 t55 t65 t72 t109 t107 t108 t71 false)
noncomputable def rivetlaw07_LeBack.b115 (t71 : List Int) (v116 : Int) : Option (Int ⊕ (Ex Bool Unit)) := (if v116 < (t71.length : Int) then (if 0 ≤ v116 ∧ v116 ≤ (t71.length : Int) then ((le_TakeName (t71.take (v116 : Int).toNat)).bind fun ⟨t129, t130, t131⟩ => ((if t131 = 3 then some (.inl (w64 (v116 + 1))) else some (.inr (.ret false))))) else none) else some (.inr (.done ())))
noncomputable def rivetlaw07_LeBack (l0 : List Int) (a1 : ByteArray) (l2 : List Int) : Option Bool := ((rivetlaw07_shown).bind fun t4 => ((if 0 ≤ (mnn (l0.length : Int) 40) ∧ (mnn (l0.length : Int) 40) ≤ (l0.length : Int) then ((le_Put (l0.take (mnn (l0.length : Int) 40 : Int).toNat)).bind fun t20 => ((if ([] : List Int).length + t20.length ≤ 140737488355328 then (if 0 ≤ (mnn (l2.length : Int) 200) ∧ (mnn (l2.length : Int) 200) ≤ (l2.length : Int) then (if (([] : List Int) ++ t20).length + (l2.take (mnn (l2.length : Int) 200 : Int).toNat).length ≤ 140737488355328 then ((le_Take ((([] : List Int) ++ t20) ++ (l2.take (mnn (l2.length : Int) 200 : Int).toNat)) ((l0.take (mnn (l0.length : Int) 40 : Int).toNat).length : Int)).bind fun ⟨t55, t56⟩ => (((rivetref07_Fit a1).bind fun t65 => (((le_PutName t65).bind fun ⟨t71, t72⟩ => ((if ([] : List Int).length + t71.length ≤ 140737488355328 then (if 0 ≤ (mnn (l2.length : Int) 200) ∧ (mnn (l2.length : Int) 200) ≤ (l2.length : Int) then (if (([] : List Int) ++ t71).length + (l2.take (mnn (l2.length : Int) 200 : Int).toNat).length ≤ 140737488355328 then ((le_TakeName ((([] : List Int) ++ t71) ++ (l2.take (mnn (l2.length : Int) 200 : Int).toNat))).bind fun ⟨t107, t108, t109⟩ => (((loopO (fun (σ : Int) => rivetlaw07_LeBack.b115 t71 σ) 0).bind fun e => match e with | .ret x => some x | .done e => rivetlaw07_LeBack.j1 l0 t20 t4 t56 t55 t65 t72 t109 t107 t108 t71))) else none) else none) else none))))))) else none) else none) else none))) else none)))
set_option maxRecDepth 100000 in
set_option maxHeartbeats 4000000 in
theorem rivetlaw07_LeBack.calls (A0 : Option Addr) (c0 : Nat) (l0 : List Int) (a1 : ByteArray) (A2 : Option Addr) (c2 : Nat) (l2 : List Int) (r : Bool) (w0 : World) (hr0 : Rd w0 (eI .u32) A0 c0 l0) (hr2 : Rd w0 (eI .u8) A2 c2 l2) (H : rivetlaw07_LeBack l0 a1 l2 = some r) :
    Calls Tryd.prog 5 #[.slice A0 l0.length c0, .string a1, .slice A2 l2.length c2] w0 fun e w' => e = .returned (.bool r) ∧ St [] w0 w' [] := by
 have hw : St [] w0 w0 [] := St.nil w0
 unfold rivetlaw07_LeBack at H
 refine go_fn Tryd.func5 rfl 149 Tryd.ntmps5 [(0, .slice A0 l0.length c0), (1, .string a1), (2, .slice A2 l2.length c2)] (by kernel_rfl) rfl ?_
 intro a hs
 refine go_seq_k fun K1 hK1 => ?_
 refine go_region ?_
 refine go_pvs 0 1 [0, 1, 2] hs (L' := [(0, .slice A0 l0.length c0), (1, .string a1), (2, .slice A2 l2.length c2)]) (by kernel_rfl) ?_ rfl
 clear hs; intro a hs
 refine go_end (by kernel_rfl) ?_
 refine hK1 _ _ ?_
 refine go_seq_k fun K2 hK2 => ?_
 refine go_region ?_
 obtain ⟨t4, hx5, H⟩ := bind_some H
 refine go_call hs (op := (Op.call { callee := (Callee.value (Operand.func 8)), args := #[], argTypes := #[] })) (ty := 4) (dst := some 23) (g := none) (by kernel_rfl) (by kernel_rfl) (by kernel_rfl) (f := 8) (args := #[]) (by kernel_rfl) (rivetlaw07_shown.calls t4 _ hx5) ?_
 rintro e wd6 ⟨rfl, hw7⟩
 refine ⟨_, rfl, ?_⟩
 replace hw := hw.call hw7
 intro a hs1
 replace hs : Slots a 149 [(0, .slice A0 l0.length c0), (1, .string a1), (2, .slice A2 l2.length c2), (23, .bool t4)] := hs1.keep [0, 1, 2, 23] (by kernel_rfl)
 clear hs1
 refine go_pvs 1 2 [0, 1, 2, 7] hs (L' := [(0, .slice A0 l0.length c0), (1, .string a1), (2, .slice A2 l2.length c2), (7, .bool t4)]) (by kernel_rfl) ?_ rfl
 clear hs; intro a hs
 refine go_end (by kernel_rfl) ?_
 refine hK2 _ _ ?_
 refine go_seq_k fun K8 hK8 => ?_
 refine go_region ?_
 refine go_pvs 0 1 [1, 2, 7, 24] hs (L' := [(1, .string a1), (2, .slice A2 l2.length c2), (7, .bool t4), (24, .slice A0 l0.length c0)]) (by kernel_rfl) ?_ rfl
 clear hs; intro a hs
 refine go_inline_k hs (op := (Op.call { callee := (Callee.value (Operand.func 20)), args := #[(Operand.tmp 24)], argTypes := #[32] })) (ty := 32) (dst := some 25) (g := none) (by kernel_rfl) (by kernel_rfl) (by kernel_rfl) (f := 20) (args := #[.slice A0 l0.length c0]) (by kernel_rfl) (fun KR9 hKR9 => ?_)
 refine go_fn Tryd.func20 rfl 8 Tryd.ntmps20 [(0, .slice A0 l0.length c0)] (by kernel_rfl) rfl ?_
 clear hs; intro a hs
 refine go_seq_k fun K10 hK10 => ?_
 refine go_region ?_
 refine go_pvs 0 1 [0] hs (L' := [(0, .slice A0 l0.length c0)]) (by kernel_rfl) ?_ rfl
 clear hs; intro a hs
 refine go_end (by kernel_rfl) ?_
 refine hK10 _ _ ?_
 refine go_seq_k fun K11 hK11 => ?_
 refine go_region ?_
 refine go_pvs 0 4 [3, 6] hs (L' := [(3, .slice A0 l0.length c0), (6, .int .i64 (mnn (l0.length : Int) 40))]) (by kernel_rfl) ?_ rfl
 clear hs; intro a hs
 obtain ⟨hp12, H⟩ := ite_only H
 obtain ⟨Aa13, cc14, hx15, hc16⟩ := c_hi (P := Tryd.prog) (ty := 32) (E := (eI .u32)) (T := 43) (t := 32) (x := (Operand.tmp 3)) (y := (Operand.tmp 6)) (k := .i64) hs (by kernel_rfl) (by kernel_rfl) (hr0.old hw) (by kernel_rfl) (by kernel_rfl) hp12.1 hp12.2
 refine go_run hs (op := (Op.slice 32 (Operand.tmp 3) none (some (Operand.tmp 6)) none)) (ty := 32) (dst := some 7) (g := none) (by kernel_rfl) (by kernel_rfl) (by kernel_rfl) hx15 [7] (L' := [(7, .slice Aa13 (l0.take (mnn (l0.length : Int) 40 : Int).toNat).length cc14)]) (by kernel_rfl) ?_
 clear hs; intro a hs
 refine go_pvs 5 6 [2] hs (L' := [(2, .slice Aa13 (l0.take (mnn (l0.length : Int) 40 : Int).toNat).length cc14)]) (by kernel_rfl) ?_ rfl
 clear hs; intro a hs
 refine go_end (by kernel_rfl) ?_
 refine hK11 _ _ ?_
 refine wp_ret ?_
 refine ret1 (t := 2) (v := .slice Aa13 (l0.take (mnn (l0.length : Int) 40 : Int).toNat).length cc14) hs (by kernel_rfl) (by kernel_rfl) ?_
 refine ⟨_, rfl, ?_⟩
 refine hKR9 _ _ ?_
 intro a hs1
 have hs : Slots a _ [(1, .string a1), (2, .slice A2 l2.length c2), (7, .bool t4), (25, .slice Aa13 (l0.take (mnn (l0.length : Int) 40 : Int).toNat).length cc14)] := hs1.keep [1, 2, 7, 25] (by kernel_rfl)
 clear hs1
 refine go_pvs 2 3 [1, 2, 7, 8] hs (L' := [(1, .string a1), (2, .slice A2 l2.length c2), (7, .bool t4), (8, .slice Aa13 (l0.take (mnn (l0.length : Int) 40 : Int).toNat).length cc14)]) (by kernel_rfl) ?_ rfl
 clear hs; intro a hs
 refine go_end (by kernel_rfl) ?_
 refine hK8 _ _ ?_
 refine go_seq_k fun K18 hK18 => ?_
 refine go_region ?_
 refine go_pvs 0 1 [1, 2, 7, 8, 26] hs (L' := [(1, .string a1), (2, .slice A2 l2.length c2), (7, .bool t4), (8, .slice Aa13 (l0.take (mnn (l0.length : Int) 40 : Int).toNat).length cc14), (26, .slice Aa13 (l0.take (mnn (l0.length : Int) 40 : Int).toNat).length cc14)]) (by kernel_rfl) ?_ rfl
 clear hs; intro a hs
 obtain ⟨t20, hx21, H⟩ := bind_some H
 refine go_call hs (op := (Op.call { callee := (Callee.value (Operand.func 19)), args := #[(Operand.tmp 26)], argTypes := #[32] })) (ty := 22) (dst := some 27) (g := none) (by kernel_rfl) (by kernel_rfl) (by kernel_rfl) (f := 19) (args := #[.slice Aa13 (l0.take (mnn (l0.length : Int) 40 : Int).toNat).length cc14]) (by kernel_rfl) (le_Put.calls Aa13 cc14 (l0.take (mnn (l0.length : Int) 40 : Int).toNat) t20 _ (hc16 _ (hr0.old hw)) hx21) ?_
 rintro e wd24 ⟨Aa22, cc23, rfl, hw25⟩
 refine ⟨_, rfl, ?_⟩
 replace hw := hw.call hw25
 intro a hs1
 replace hs : Slots a 149 [(1, .string a1), (2, .slice A2 l2.length c2), (7, .bool t4), (8, .slice Aa13 (l0.take (mnn (l0.length : Int) 40 : Int).toNat).length cc14), (27, .slice Aa22 t20.length cc23)] := hs1.keep [1, 2, 7, 8, 27] (by kernel_rfl)
 clear hs1
 refine go_pvs 2 3 [1, 2, 7, 8, 9] hs (L' := [(1, .string a1), (2, .slice A2 l2.length c2), (7, .bool t4), (8, .slice Aa13 (l0.take (mnn (l0.length : Int) 40 : Int).toNat).length cc14), (9, .slice Aa22 t20.length cc23)]) (by kernel_rfl) ?_ rfl
 clear hs; intro a hs
 refine go_end (by kernel_rfl) ?_
 refine hK18 _ _ ?_
 refine go_seq_k fun K27 hK27 => ?_
 refine go_region ?_
 obtain ⟨Aa28, cc29, wd30, hx31, hw⟩ := n_lit0 (P := Tryd.prog) (t := 22) (ty := 22) (T := 5) hs hw (eI .u8) (by kernel_rfl) (by kernel_rfl)
 refine go_run hs (op := (Op.buildSlice 22 0 #[])) (ty := 22) (dst := some 29) (g := none) (by kernel_rfl) (by kernel_rfl) (by kernel_rfl) hx31 [1, 2, 7, 8, 9, 29] (L' := [(1, .string a1), (2, .slice A2 l2.length c2), (7, .bool t4), (8, .slice Aa13 (l0.take (mnn (l0.length : Int) 40 : Int).toNat).length cc14), (9, .slice Aa22 t20.length cc23), (29, .slice Aa28 ([] : List Int).length cc29)]) (by kernel_rfl) ?_
 clear hs; intro a hs
 refine go_pvs 1 2 [1, 2, 7, 8, 9, 29, 30] hs (L' := [(1, .string a1), (2, .slice A2 l2.length c2), (7, .bool t4), (8, .slice Aa13 (l0.take (mnn (l0.length : Int) 40 : Int).toNat).length cc14), (9, .slice Aa22 t20.length cc23), (29, .slice Aa28 ([] : List Int).length cc29), (30, .slice Aa22 t20.length cc23)]) (by kernel_rfl) ?_ rfl
 clear hs; intro a hs
 obtain ⟨hp33, H⟩ := ite_only H
 have hsrc38 : Src Tryd.prog (eI .u8).sz 22 (.slice Aa22 t20.length cc23) t20.length (t20.flatMap (eI .u8).enc) _ := (Src.of_rd (E := (eI .u8)) (e' := 5) (by kernel_rfl) (Rd.of_own (hw.up 1)))
 obtain ⟨Aa34, cc35, wd36, hx37, hw⟩ := x_append (P := Tryd.prog) (t := 22) (tx := 22) (ty := 22) (x := (Operand.tmp 29)) (y := (Operand.tmp 30)) (z := .int .u8 0) (bytes := 1) (l2 := t20) hs hw (by kernel_rfl) (by kernel_rfl) (by kernel_rfl) (by kernel_rfl) (by kernel_rfl) hsrc38 (by omega) (by omega)
 refine go_run hs (op := (Op.call { callee := (Callee.builtin Builtin.append), args := #[(Operand.tmp 29), (Operand.tmp 30)], argTypes := #[22, 22] })) (ty := 22) (dst := some 31) (g := none) (by kernel_rfl) (by kernel_rfl) (by kernel_rfl) hx37 [1, 2, 7, 8, 9, 31] (L' := [(1, .string a1), (2, .slice A2 l2.length c2), (7, .bool t4), (8, .slice Aa13 (l0.take (mnn (l0.length : Int) 40 : Int).toNat).length cc14), (9, .slice Aa22 t20.length cc23), (31, .slice Aa34 (([] : List Int) ++ t20).length cc35)]) (by kernel_rfl) ?_
 clear hs; intro a hs
 refine go_pvs 3 4 [1, 2, 7, 8, 9, 31, 32] hs (L' := [(1, .string a1), (2, .slice A2 l2.length c2), (7, .bool t4), (8, .slice Aa13 (l0.take (mnn (l0.length : Int) 40 : Int).toNat).length cc14), (9, .slice Aa22 t20.length cc23), (31, .slice Aa34 (([] : List Int) ++ t20).length cc35), (32, .slice A2 l2.length c2)]) (by kernel_rfl) ?_ rfl
 clear hs; intro a hs
 refine go_inline_k hs (op := (Op.call { callee := (Callee.value (Operand.func 12)), args := #[(Operand.tmp 32)], argTypes := #[22] })) (ty := 22) (dst := some 33) (g := none) (by kernel_rfl) (by kernel_rfl) (by kernel_rfl) (f := 12) (args := #[.slice A2 l2.length c2]) (by kernel_rfl) (fun KR39 hKR39 => ?_)
 refine go_fn Tryd.func12 rfl 8 Tryd.ntmps12 [(0, .slice A2 l2.length c2)] (by kernel_rfl) rfl ?_
 clear hs; intro a hs
 refine go_seq_k fun K40 hK40 => ?_
 refine go_region ?_
 refine go_pvs 0 1 [0] hs (L' := [(0, .slice A2 l2.length c2)]) (by kernel_rfl) ?_ rfl
 clear hs; intro a hs
 refine go_end (by kernel_rfl) ?_
 refine hK40 _ _ ?_
 refine go_seq_k fun K41 hK41 => ?_
 refine go_region ?_
 refine go_pvs 0 4 [3, 6] hs (L' := [(3, .slice A2 l2.length c2), (6, .int .i64 (mnn (l2.length : Int) 200))]) (by kernel_rfl) ?_ rfl
 clear hs; intro a hs
 obtain ⟨hp42, H⟩ := ite_only H
 obtain ⟨Aa43, cc44, hx45, hc46⟩ := c_hi (P := Tryd.prog) (ty := 22) (E := (eI .u8)) (T := 5) (t := 22) (x := (Operand.tmp 3)) (y := (Operand.tmp 6)) (k := .i64) hs (by kernel_rfl) (by kernel_rfl) (hr2.old hw) (by kernel_rfl) (by kernel_rfl) hp42.1 hp42.2
 refine go_run hs (op := (Op.slice 22 (Operand.tmp 3) none (some (Operand.tmp 6)) none)) (ty := 22) (dst := some 7) (g := none) (by kernel_rfl) (by kernel_rfl) (by kernel_rfl) hx45 [7] (L' := [(7, .slice Aa43 (l2.take (mnn (l2.length : Int) 200 : Int).toNat).length cc44)]) (by kernel_rfl) ?_
 clear hs; intro a hs
 refine go_pvs 5 6 [2] hs (L' := [(2, .slice Aa43 (l2.take (mnn (l2.length : Int) 200 : Int).toNat).length cc44)]) (by kernel_rfl) ?_ rfl
 clear hs; intro a hs
 refine go_end (by kernel_rfl) ?_
 refine hK41 _ _ ?_
 refine wp_ret ?_
 refine ret1 (t := 2) (v := .slice Aa43 (l2.take (mnn (l2.length : Int) 200 : Int).toNat).length cc44) hs (by kernel_rfl) (by kernel_rfl) ?_
 refine ⟨_, rfl, ?_⟩
 refine hKR39 _ _ ?_
 intro a hs1
 have hs : Slots a _ [(1, .string a1), (2, .slice A2 l2.length c2), (7, .bool t4), (8, .slice Aa13 (l0.take (mnn (l0.length : Int) 40 : Int).toNat).length cc14), (9, .slice Aa22 t20.length cc23), (31, .slice Aa34 (([] : List Int) ++ t20).length cc35), (33, .slice Aa43 (l2.take (mnn (l2.length : Int) 200 : Int).toNat).length cc44)] := hs1.keep [1, 2, 7, 8, 9, 31, 33] (by kernel_rfl)
 clear hs1
 obtain ⟨hp48, H⟩ := ite_only H
 have hsrc53 : Src Tryd.prog (eI .u8).sz 22 (.slice Aa43 (l2.take (mnn (l2.length : Int) 200 : Int).toNat).length cc44) (l2.take (mnn (l2.length : Int) 200 : Int).toNat).length ((l2.take (mnn (l2.length : Int) 200 : Int).toNat).flatMap (eI .u8).enc) _ := (Src.of_rd (E := (eI .u8)) (e' := 5) (by kernel_rfl) (hc46 _ (hr2.old hw)))
 obtain ⟨Aa49, cc50, wd51, hx52, hw⟩ := x_append (P := Tryd.prog) (t := 22) (tx := 22) (ty := 22) (x := (Operand.tmp 31)) (y := (Operand.tmp 33)) (z := .int .u8 0) (bytes := 1) (l2 := l2.take (mnn (l2.length : Int) 200 : Int).toNat) hs hw (by kernel_rfl) (by kernel_rfl) (by kernel_rfl) (by kernel_rfl) (by kernel_rfl) hsrc53 (by omega) (by omega)
 refine go_run hs (op := (Op.call { callee := (Callee.builtin Builtin.append), args := #[(Operand.tmp 31), (Operand.tmp 33)], argTypes := #[22, 22] })) (ty := 22) (dst := some 34) (g := none) (by kernel_rfl) (by kernel_rfl) (by kernel_rfl) hx52 [1, 2, 7, 8, 9, 34] (L' := [(1, .string a1), (2, .slice A2 l2.length c2), (7, .bool t4), (8, .slice Aa13 (l0.take (mnn (l0.length : Int) 40 : Int).toNat).length cc14), (9, .slice Aa22 t20.length cc23), (34, .slice Aa49 ((([] : List Int) ++ t20) ++ (l2.take (mnn (l2.length : Int) 200 : Int).toNat)).length cc50)]) (by kernel_rfl) ?_
 clear hs; intro a hs
 refine go_pvs 6 8 [1, 2, 7, 8, 9, 34, 36] hs (L' := [(1, .string a1), (2, .slice A2 l2.length c2), (7, .bool t4), (8, .slice Aa13 (l0.take (mnn (l0.length : Int) 40 : Int).toNat).length cc14), (9, .slice Aa22 t20.length cc23), (34, .slice Aa49 ((([] : List Int) ++ t20) ++ (l2.take (mnn (l2.length : Int) 200 : Int).toNat)).length cc50), (36, .int .i64 ((l0.take (mnn (l0.length : Int) 40 : Int).toNat).length : Int))]) (by kernel_rfl) ?_ rfl
 clear hs; intro a hs
 obtain ⟨⟨t55, t56⟩, hx57, H⟩ := bind_some H
 refine go_call hs (op := (Op.call { callee := (Callee.value (Operand.func 16)), args := #[(Operand.tmp 34), (Operand.tmp 36)], argTypes := #[22, 3] })) (ty := 33) (dst := some 37) (g := none) (by kernel_rfl) (by kernel_rfl) (by kernel_rfl) (f := 16) (args := #[.slice Aa49 ((([] : List Int) ++ t20) ++ (l2.take (mnn (l2.length : Int) 200 : Int).toNat)).length cc50, .int .i64 ((l0.take (mnn (l0.length : Int) 40 : Int).toNat).length : Int)]) (by kernel_rfl) (le_Take.calls Aa49 cc50 ((([] : List Int) ++ t20) ++ (l2.take (mnn (l2.length : Int) 200 : Int).toNat)) ((l0.take (mnn (l0.length : Int) 40 : Int).toNat).length : Int) (t55, t56) _ (Rd.of_own (hw.up 0)) hx57) ?_
 rintro e wd60 ⟨Aa58, cc59, rfl, hw61⟩
 refine ⟨_, rfl, ?_⟩
 replace hw := hw.call hw61
 intro a hs1
 replace hs : Slots a 149 [(1, .string a1), (2, .slice A2 l2.length c2), (7, .bool t4), (8, .slice Aa13 (l0.take (mnn (l0.length : Int) 40 : Int).toNat).length cc14), (9, .slice Aa22 t20.length cc23), (37, .tuple #[.slice Aa58 t55.length cc59, .int .i64 t56])] := hs1.keep [1, 2, 7, 8, 9, 37] (by kernel_rfl)
 clear hs1
 refine go_pvs 9 14 [1, 2, 7, 8, 9, 10, 11] hs (L' := [(1, .string a1), (2, .slice A2 l2.length c2), (7, .bool t4), (8, .slice Aa13 (l0.take (mnn (l0.length : Int) 40 : Int).toNat).length cc14), (9, .slice Aa22 t20.length cc23), (10, .slice Aa58 t55.length cc59), (11, .int .i64 t56)]) (by kernel_rfl) ?_ rfl
 clear hs; intro a hs
 refine go_end (by kernel_rfl) ?_
 refine hK27 _ _ ?_
 refine go_seq_k fun K63 hK63 => ?_
 refine go_region ?_
 refine go_pvs 0 1 [2, 7, 8, 9, 10, 11, 40] hs (L' := [(2, .slice A2 l2.length c2), (7, .bool t4), (8, .slice Aa13 (l0.take (mnn (l0.length : Int) 40 : Int).toNat).length cc14), (9, .slice Aa22 t20.length cc23), (10, .slice Aa58 t55.length cc59), (11, .int .i64 t56), (40, .string a1)]) (by kernel_rfl) ?_ rfl
 clear hs; intro a hs
 obtain ⟨t65, hx66, H⟩ := bind_some H
 refine go_call hs (op := (Op.call { callee := (Callee.value (Operand.func 22)), args := #[(Operand.tmp 40)], argTypes := #[9] })) (ty := 9) (dst := some 41) (g := none) (by kernel_rfl) (by kernel_rfl) (by kernel_rfl) (f := 22) (args := #[.string a1]) (by kernel_rfl) (rivetref07_Fit.calls a1 t65 _ hx66) ?_
 rintro e wd67 ⟨rfl, hw68⟩
 refine ⟨_, rfl, ?_⟩
 replace hw := hw.call hw68
 intro a hs1
 replace hs : Slots a 149 [(2, .slice A2 l2.length c2), (7, .bool t4), (8, .slice Aa13 (l0.take (mnn (l0.length : Int) 40 : Int).toNat).length cc14), (9, .slice Aa22 t20.length cc23), (10, .slice Aa58 t55.length cc59), (11, .int .i64 t56), (41, .string t65)] := hs1.keep [2, 7, 8, 9, 10, 11, 41] (by kernel_rfl)
 clear hs1
 refine go_pvs 2 3 [2, 7, 8, 9, 10, 11, 12] hs (L' := [(2, .slice A2 l2.length c2), (7, .bool t4), (8, .slice Aa13 (l0.take (mnn (l0.length : Int) 40 : Int).toNat).length cc14), (9, .slice Aa22 t20.length cc23), (10, .slice Aa58 t55.length cc59), (11, .int .i64 t56), (12, .string t65)]) (by kernel_rfl) ?_ rfl
 clear hs; intro a hs
 refine go_end (by kernel_rfl) ?_
 refine hK63 _ _ ?_
 refine go_seq_k fun K69 hK69 => ?_
 refine go_region ?_
 refine go_pvs 0 1 [2, 7, 8, 9, 10, 11, 12, 43] hs (L' := [(2, .slice A2 l2.length c2), (7, .bool t4), (8, .slice Aa13 (l0.take (mnn (l0.length : Int) 40 : Int).toNat).length cc14), (9, .slice Aa22 t20.length cc23), (10, .slice Aa58 t55.length cc59), (11, .int .i64 t56), (12, .string t65), (43, .string t65)]) (by kernel_rfl) ?_ rfl
 clear hs; intro a hs
 obtain ⟨⟨t71, t72⟩, hx73, H⟩ := bind_some H
 refine go_call hs (op := (Op.call { callee := (Callee.value (Operand.func 9)), args := #[(Operand.tmp 43)], argTypes := #[9] })) (ty := 25) (dst := some 44) (g := none) (by kernel_rfl) (by kernel_rfl) (by kernel_rfl) (f := 9) (args := #[.string t65]) (by kernel_rfl) (le_PutName.calls t65 (t71, t72) _ hx73) ?_
 rintro e wd76 ⟨Aa74, cc75, rfl, hw77⟩
 refine ⟨_, rfl, ?_⟩
 replace hw := hw.call hw77
 intro a hs1
 replace hs : Slots a 149 [(2, .slice A2 l2.length c2), (7, .bool t4), (8, .slice Aa13 (l0.take (mnn (l0.length : Int) 40 : Int).toNat).length cc14), (9, .slice Aa22 t20.length cc23), (10, .slice Aa58 t55.length cc59), (11, .int .i64 t56), (12, .string t65), (44, .tuple #[.slice Aa74 t71.length cc75, .int .i64 t72])] := hs1.keep [2, 7, 8, 9, 10, 11, 12, 44] (by kernel_rfl)
 clear hs1
 refine go_pvs 2 7 [2, 7, 8, 9, 10, 11, 12, 13, 14] hs (L' := [(2, .slice A2 l2.length c2), (7, .bool t4), (8, .slice Aa13 (l0.take (mnn (l0.length : Int) 40 : Int).toNat).length cc14), (9, .slice Aa22 t20.length cc23), (10, .slice Aa58 t55.length cc59), (11, .int .i64 t56), (12, .string t65), (13, .slice Aa74 t71.length cc75), (14, .int .i64 t72)]) (by kernel_rfl) ?_ rfl
 clear hs; intro a hs
 refine go_end (by kernel_rfl) ?_
 refine hK69 _ _ ?_
 refine go_seq_k fun K79 hK79 => ?_
 refine go_region ?_
 obtain ⟨Aa80, cc81, wd82, hx83, hw⟩ := n_lit0 (P := Tryd.prog) (t := 22) (ty := 22) (T := 5) hs hw (eI .u8) (by kernel_rfl) (by kernel_rfl)
 refine go_run hs (op := (Op.buildSlice 22 0 #[])) (ty := 22) (dst := some 48) (g := none) (by kernel_rfl) (by kernel_rfl) (by kernel_rfl) hx83 [2, 7, 8, 9, 10, 11, 12, 13, 14, 48] (L' := [(2, .slice A2 l2.length c2), (7, .bool t4), (8, .slice Aa13 (l0.take (mnn (l0.length : Int) 40 : Int).toNat).length cc14), (9, .slice Aa22 t20.length cc23), (10, .slice Aa58 t55.length cc59), (11, .int .i64 t56), (12, .string t65), (13, .slice Aa74 t71.length cc75), (14, .int .i64 t72), (48, .slice Aa80 ([] : List Int).length cc81)]) (by kernel_rfl) ?_
 clear hs; intro a hs
 refine go_pvs 1 2 [2, 7, 8, 9, 10, 11, 12, 13, 14, 48, 49] hs (L' := [(2, .slice A2 l2.length c2), (7, .bool t4), (8, .slice Aa13 (l0.take (mnn (l0.length : Int) 40 : Int).toNat).length cc14), (9, .slice Aa22 t20.length cc23), (10, .slice Aa58 t55.length cc59), (11, .int .i64 t56), (12, .string t65), (13, .slice Aa74 t71.length cc75), (14, .int .i64 t72), (48, .slice Aa80 ([] : List Int).length cc81), (49, .slice Aa74 t71.length cc75)]) (by kernel_rfl) ?_ rfl
 clear hs; intro a hs
 obtain ⟨hp85, H⟩ := ite_only H
 have hsrc90 : Src Tryd.prog (eI .u8).sz 22 (.slice Aa74 t71.length cc75) t71.length (t71.flatMap (eI .u8).enc) _ := (Src.of_rd (E := (eI .u8)) (e' := 5) (by kernel_rfl) (Rd.of_own (hw.up 1)))
 obtain ⟨Aa86, cc87, wd88, hx89, hw⟩ := x_append (P := Tryd.prog) (t := 22) (tx := 22) (ty := 22) (x := (Operand.tmp 48)) (y := (Operand.tmp 49)) (z := .int .u8 0) (bytes := 1) (l2 := t71) hs hw (by kernel_rfl) (by kernel_rfl) (by kernel_rfl) (by kernel_rfl) (by kernel_rfl) hsrc90 (by omega) (by omega)
 refine go_run hs (op := (Op.call { callee := (Callee.builtin Builtin.append), args := #[(Operand.tmp 48), (Operand.tmp 49)], argTypes := #[22, 22] })) (ty := 22) (dst := some 50) (g := none) (by kernel_rfl) (by kernel_rfl) (by kernel_rfl) hx89 [2, 7, 8, 9, 10, 11, 12, 13, 14, 50] (L' := [(2, .slice A2 l2.length c2), (7, .bool t4), (8, .slice Aa13 (l0.take (mnn (l0.length : Int) 40 : Int).toNat).length cc14), (9, .slice Aa22 t20.length cc23), (10, .slice Aa58 t55.length cc59), (11, .int .i64 t56), (12, .string t65), (13, .slice Aa74 t71.length cc75), (14, .int .i64 t72), (50, .slice Aa86 (([] : List Int) ++ t71).length cc87)]) (by kernel_rfl) ?_
 clear hs; intro a hs
 refine go_pvs 3 4 [7, 8, 9, 10, 11, 12, 13, 14, 50, 51] hs (L' := [(7, .bool t4), (8, .slice Aa13 (l0.take (mnn (l0.length : Int) 40 : Int).toNat).length cc14), (9, .slice Aa22 t20.length cc23), (10, .slice Aa58 t55.length cc59), (11, .int .i64 t56), (12, .string t65), (13, .slice Aa74 t71.length cc75), (14, .int .i64 t72), (50, .slice Aa86 (([] : List Int) ++ t71).length cc87), (51, .slice A2 l2.length c2)]) (by kernel_rfl) ?_ rfl
 clear hs; intro a hs
 refine go_inline_k hs (op := (Op.call { callee := (Callee.value (Operand.func 12)), args := #[(Operand.tmp 51)], argTypes := #[22] })) (ty := 22) (dst := some 52) (g := none) (by kernel_rfl) (by kernel_rfl) (by kernel_rfl) (f := 12) (args := #[.slice A2 l2.length c2]) (by kernel_rfl) (fun KR91 hKR91 => ?_)
 refine go_fn Tryd.func12 rfl 8 Tryd.ntmps12 [(0, .slice A2 l2.length c2)] (by kernel_rfl) rfl ?_
 clear hs; intro a hs
 refine go_seq_k fun K92 hK92 => ?_
 refine go_region ?_
 refine go_pvs 0 1 [0] hs (L' := [(0, .slice A2 l2.length c2)]) (by kernel_rfl) ?_ rfl
 clear hs; intro a hs
 refine go_end (by kernel_rfl) ?_
 refine hK92 _ _ ?_
 refine go_seq_k fun K93 hK93 => ?_
 refine go_region ?_
 refine go_pvs 0 4 [3, 6] hs (L' := [(3, .slice A2 l2.length c2), (6, .int .i64 (mnn (l2.length : Int) 200))]) (by kernel_rfl) ?_ rfl
 clear hs; intro a hs
 obtain ⟨hp94, H⟩ := ite_only H
 obtain ⟨Aa95, cc96, hx97, hc98⟩ := c_hi (P := Tryd.prog) (ty := 22) (E := (eI .u8)) (T := 5) (t := 22) (x := (Operand.tmp 3)) (y := (Operand.tmp 6)) (k := .i64) hs (by kernel_rfl) (by kernel_rfl) (hr2.old hw) (by kernel_rfl) (by kernel_rfl) hp94.1 hp94.2
 refine go_run hs (op := (Op.slice 22 (Operand.tmp 3) none (some (Operand.tmp 6)) none)) (ty := 22) (dst := some 7) (g := none) (by kernel_rfl) (by kernel_rfl) (by kernel_rfl) hx97 [7] (L' := [(7, .slice Aa95 (l2.take (mnn (l2.length : Int) 200 : Int).toNat).length cc96)]) (by kernel_rfl) ?_
 clear hs; intro a hs
 refine go_pvs 5 6 [2] hs (L' := [(2, .slice Aa95 (l2.take (mnn (l2.length : Int) 200 : Int).toNat).length cc96)]) (by kernel_rfl) ?_ rfl
 clear hs; intro a hs
 refine go_end (by kernel_rfl) ?_
 refine hK93 _ _ ?_
 refine wp_ret ?_
 refine ret1 (t := 2) (v := .slice Aa95 (l2.take (mnn (l2.length : Int) 200 : Int).toNat).length cc96) hs (by kernel_rfl) (by kernel_rfl) ?_
 refine ⟨_, rfl, ?_⟩
 refine hKR91 _ _ ?_
 intro a hs1
 have hs : Slots a _ [(7, .bool t4), (8, .slice Aa13 (l0.take (mnn (l0.length : Int) 40 : Int).toNat).length cc14), (9, .slice Aa22 t20.length cc23), (10, .slice Aa58 t55.length cc59), (11, .int .i64 t56), (12, .string t65), (13, .slice Aa74 t71.length cc75), (14, .int .i64 t72), (50, .slice Aa86 (([] : List Int) ++ t71).length cc87), (52, .slice Aa95 (l2.take (mnn (l2.length : Int) 200 : Int).toNat).length cc96)] := hs1.keep [7, 8, 9, 10, 11, 12, 13, 14, 50, 52] (by kernel_rfl)
 clear hs1
 obtain ⟨hp100, H⟩ := ite_only H
 have hsrc105 : Src Tryd.prog (eI .u8).sz 22 (.slice Aa95 (l2.take (mnn (l2.length : Int) 200 : Int).toNat).length cc96) (l2.take (mnn (l2.length : Int) 200 : Int).toNat).length ((l2.take (mnn (l2.length : Int) 200 : Int).toNat).flatMap (eI .u8).enc) _ := (Src.of_rd (E := (eI .u8)) (e' := 5) (by kernel_rfl) (hc98 _ (hr2.old hw)))
 obtain ⟨Aa101, cc102, wd103, hx104, hw⟩ := x_append (P := Tryd.prog) (t := 22) (tx := 22) (ty := 22) (x := (Operand.tmp 50)) (y := (Operand.tmp 52)) (z := .int .u8 0) (bytes := 1) (l2 := l2.take (mnn (l2.length : Int) 200 : Int).toNat) hs hw (by kernel_rfl) (by kernel_rfl) (by kernel_rfl) (by kernel_rfl) (by kernel_rfl) hsrc105 (by omega) (by omega)
 refine go_run hs (op := (Op.call { callee := (Callee.builtin Builtin.append), args := #[(Operand.tmp 50), (Operand.tmp 52)], argTypes := #[22, 22] })) (ty := 22) (dst := some 53) (g := none) (by kernel_rfl) (by kernel_rfl) (by kernel_rfl) hx104 [7, 8, 9, 10, 11, 12, 13, 14, 53] (L' := [(7, .bool t4), (8, .slice Aa13 (l0.take (mnn (l0.length : Int) 40 : Int).toNat).length cc14), (9, .slice Aa22 t20.length cc23), (10, .slice Aa58 t55.length cc59), (11, .int .i64 t56), (12, .string t65), (13, .slice Aa74 t71.length cc75), (14, .int .i64 t72), (53, .slice Aa101 ((([] : List Int) ++ t71) ++ (l2.take (mnn (l2.length : Int) 200 : Int).toNat)).length cc102)]) (by kernel_rfl) ?_
 clear hs; intro a hs
 obtain ⟨⟨t107, t108, t109⟩, hx110, H⟩ := bind_some H
 refine go_call hs (op := (Op.call { callee := (Callee.value (Operand.func 11)), args := #[(Operand.tmp 53)], argTypes := #[22] })) (ty := 27) (dst := some 54) (g := none) (by kernel_rfl) (by kernel_rfl) (by kernel_rfl) (f := 11) (args := #[.slice Aa101 ((([] : List Int) ++ t71) ++ (l2.take (mnn (l2.length : Int) 200 : Int).toNat)).length cc102]) (by kernel_rfl) (le_TakeName.calls Aa101 cc102 ((([] : List Int) ++ t71) ++ (l2.take (mnn (l2.length : Int) 200 : Int).toNat)) (t107, t108, t109) _ (Rd.of_own (hw.up 0)) hx110) ?_
 rintro e wd111 ⟨rfl, hw112⟩
 refine ⟨_, rfl, ?_⟩
 replace hw := hw.call hw112
 intro a hs1
 replace hs : Slots a 149 [(7, .bool t4), (8, .slice Aa13 (l0.take (mnn (l0.length : Int) 40 : Int).toNat).length cc14), (9, .slice Aa22 t20.length cc23), (10, .slice Aa58 t55.length cc59), (11, .int .i64 t56), (12, .string t65), (13, .slice Aa74 t71.length cc75), (14, .int .i64 t72), (54, .tuple #[.string t107, .int .i64 t108, .int .i64 t109])] := hs1.keep [7, 8, 9, 10, 11, 12, 13, 14, 54] (by kernel_rfl)
 clear hs1
 refine go_pvs 7 14 [7, 8, 9, 10, 11, 12, 13, 14, 15, 16, 17] hs (L' := [(7, .bool t4), (8, .slice Aa13 (l0.take (mnn (l0.length : Int) 40 : Int).toNat).length cc14), (9, .slice Aa22 t20.length cc23), (10, .slice Aa58 t55.length cc59), (11, .int .i64 t56), (12, .string t65), (13, .slice Aa74 t71.length cc75), (14, .int .i64 t72), (15, .string t107), (16, .int .i64 t108), (17, .int .i64 t109)]) (by kernel_rfl) ?_ rfl
 clear hs; intro a hs
 refine go_end (by kernel_rfl) ?_
 refine hK79 _ _ ?_
 refine go_seq_k fun K113 hK113 => ?_
 refine go_seq_k fun K114 hK114 => ?_
 refine go_region ?_
 refine go_pvs 0 1 [7, 8, 9, 10, 11, 12, 13, 14, 15, 16, 17, 18] hs (L' := [(7, .bool t4), (8, .slice Aa13 (l0.take (mnn (l0.length : Int) 40 : Int).toNat).length cc14), (9, .slice Aa22 t20.length cc23), (10, .slice Aa58 t55.length cc59), (11, .int .i64 t56), (12, .string t65), (13, .slice Aa74 t71.length cc75), (14, .int .i64 t72), (15, .string t107), (16, .int .i64 t108), (17, .int .i64 t109), (18, .int .i64 0)]) (by kernel_rfl) ?_ rfl
 clear hs; intro a hs
 refine go_end (by kernel_rfl) ?_
 refine hK114 _ _ ?_
 refine wp_block ?_
 obtain ⟨e115, hl115, HX115⟩ := bind_some H
 have hJ1 : ∀ (a : Act) (w : World), Slots a 149 [(7, .bool t4), (8, .slice Aa13 (l0.take (mnn (l0.length : Int) 40 : Int).toNat).length cc14), (9, .slice Aa22 t20.length cc23), (10, .slice Aa58 t55.length cc59), (11, .int .i64 t56), (12, .string t65), (13, .slice Aa74 t71.length cc75), (14, .int .i64 t72), (15, .string t107), (16, .int .i64 t108), (17, .int .i64 t109)] → St [] w0 w [own 5 (eI .u8) Aa101 cc102 ((([] : List Int) ++ t71) ++ (l2.take (mnn (l2.length : Int) 200 : Int).toNat)), own 5 (eI .u8) Aa74 cc75 t71, own 43 (eI .u32) Aa58 cc59 t55, own 5 (eI .u8) Aa49 cc50 ((([] : List Int) ++ t20) ++ (l2.take (mnn (l2.length : Int) 200 : Int).toNat)), own 5 (eI .u8) Aa22 cc23 t20] → rivetlaw07_LeBack.j1 l0 t20 t4 t56 t55 t65 t72 t109 t107 t108 t71 = some r → K113 a w := by
  intro a w hs hw H
  unfold rivetlaw07_LeBack.j1 at H
  refine hK113 _ _ ?_
  refine go_seq_k fun K140 hK140 => ?_
  refine go_region ?_
  refine go_pvs 0 1 [7, 8, 9, 10, 11, 12, 13, 14, 15, 16, 17, 22] hs (L' := [(7, .bool t4), (8, .slice Aa13 (l0.take (mnn (l0.length : Int) 40 : Int).toNat).length cc14), (9, .slice Aa22 t20.length cc23), (10, .slice Aa58 t55.length cc59), (11, .int .i64 t56), (12, .string t65), (13, .slice Aa74 t71.length cc75), (14, .int .i64 t72), (15, .string t107), (16, .int .i64 t108), (17, .int .i64 t109), (22, .int .i64 0)]) (by kernel_rfl) ?_ rfl
  clear hs; intro a hs
  refine go_end (by kernel_rfl) ?_
  refine hK140 _ _ ?_
  refine go_seq_k fun K141 hK141 => ?_
  have hJ3 : ∀ (v162 : Int) (a : Act) (w : World), Slots a 149 [(7, .bool t4), (8, .slice Aa13 (l0.take (mnn (l0.length : Int) 40 : Int).toNat).length cc14), (9, .slice Aa22 t20.length cc23), (10, .slice Aa58 t55.length cc59), (11, .int .i64 t56), (12, .string t65), (13, .slice Aa74 t71.length cc75), (14, .int .i64 t72), (15, .string t107), (16, .int .i64 t108), (17, .int .i64 t109), (22, .int .i64 v162)] → St [] w0 w [own 5 (eI .u8) Aa101 cc102 ((([] : List Int) ++ t71) ++ (l2.take (mnn (l2.length : Int) 200 : Int).toNat)), own 5 (eI .u8) Aa74 cc75 t71, own 43 (eI .u32) Aa58 cc59 t55, own 5 (eI .u8) Aa49 cc50 ((([] : List Int) ++ t20) ++ (l2.take (mnn (l2.length : Int) 200 : Int).toNat)), own 5 (eI .u8) Aa22 cc23 t20] → rivetlaw07_LeBack.j3 t4 t20 l0 t56 t55 t65 t72 t109 t107 t108 t71 v162 = some r → K141 a w := by
   intro v162 a w hs hw H
   unfold rivetlaw07_LeBack.j3 at H
   refine hK141 _ _ ?_
   refine go_seq_k fun K163 hK163 => ?_
   have hJ4 : ∀ (v185 : Bool) (a : Act) (w : World), Slots a 149 [(6, .bool v185)] → St [] w0 w [own 5 (eI .u8) Aa101 cc102 ((([] : List Int) ++ t71) ++ (l2.take (mnn (l2.length : Int) 200 : Int).toNat)), own 5 (eI .u8) Aa74 cc75 t71, own 43 (eI .u32) Aa58 cc59 t55, own 5 (eI .u8) Aa49 cc50 ((([] : List Int) ++ t20) ++ (l2.take (mnn (l2.length : Int) 200 : Int).toNat)), own 5 (eI .u8) Aa22 cc23 t20] → rivetlaw07_LeBack.j4 v185 = some r → K163 a w := by
    intro v185 a w hs hw H
    unfold rivetlaw07_LeBack.j4 at H
    refine hK163 _ _ ?_
    refine wp_ret ?_
    obtain rfl := Option.some.inj H
    refine ret1 (t := 6) (v := .bool v185) hs (by kernel_rfl) (by kernel_rfl) ?_
    exact ⟨rfl, hw.only 0⟩
   refine go_region ?_
   refine go_pvs 0 2 [8, 9, 10, 11, 12, 13, 14, 15, 16, 17, 22, 94] hs (L' := [(8, .slice Aa13 (l0.take (mnn (l0.length : Int) 40 : Int).toNat).length cc14), (9, .slice Aa22 t20.length cc23), (10, .slice Aa58 t55.length cc59), (11, .int .i64 t56), (12, .string t65), (13, .slice Aa74 t71.length cc75), (14, .int .i64 t72), (15, .string t107), (16, .int .i64 t108), (17, .int .i64 t109), (22, .int .i64 v162), (94, .bool t4)]) (by kernel_rfl) ?_ rfl
   clear hs; intro a hs
   cases hb164 : t4
   ·replace H := ite_f H (ff hb164)
    rw [hb164] at hs
    refine go_pvs 2 57 [6] hs (L' := [(6, .bool false)]) (by kernel_rfl) ?_ rfl
    clear hs; intro a hs
    refine go_end (by kernel_rfl) ?_
    replace hw := hw.up 4
    replace hw := hw.up 4
    replace hw := hw.up 4
    replace hw := hw.up 4
    replace hw := hw.up 4
    replace hw := hw.only 5
    exact hJ4 false _ _ (hs.keep [6] (by kernel_rfl)) hw H
   ·replace H := ite_t H hb164
    rw [hb164] at hs
    refine go_pvs 2 10 [8, 10, 11, 12, 13, 14, 15, 16, 17, 22, 102] hs (L' := [(8, .slice Aa13 (l0.take (mnn (l0.length : Int) 40 : Int).toNat).length cc14), (10, .slice Aa58 t55.length cc59), (11, .int .i64 t56), (12, .string t65), (13, .slice Aa74 t71.length cc75), (14, .int .i64 t72), (15, .string t107), (16, .int .i64 t108), (17, .int .i64 t109), (22, .int .i64 v162), (102, .bool ((t20.length : Int) == (w64 (4 * ((l0.take (mnn (l0.length : Int) 40 : Int).toNat).length : Int)))))]) (by kernel_rfl) ?_ rfl
    clear hs; intro a hs
    cases hb165 : ((t20.length : Int) == (w64 (4 * ((l0.take (mnn (l0.length : Int) 40 : Int).toNat).length : Int))))
    ·replace H := ite_f H (beq_eq_false_iff_ne.1 hb165)
     rw [hb165] at hs
     refine go_pvs 10 57 [6] hs (L' := [(6, .bool false)]) (by kernel_rfl) ?_ rfl
     clear hs; intro a hs
     refine go_end (by kernel_rfl) ?_
     replace hw := hw.up 4
     replace hw := hw.up 4
     replace hw := hw.up 4
     replace hw := hw.up 4
     replace hw := hw.up 4
     replace hw := hw.only 5
     exact hJ4 false _ _ (hs.keep [6] (by kernel_rfl)) hw H
    ·replace H := ite_t H (beq_iff_eq.1 hb165)
     rw [hb165] at hs
     refine go_pvs 10 14 [8, 10, 12, 13, 14, 15, 16, 17, 22, 106] hs (L' := [(8, .slice Aa13 (l0.take (mnn (l0.length : Int) 40 : Int).toNat).length cc14), (10, .slice Aa58 t55.length cc59), (12, .string t65), (13, .slice Aa74 t71.length cc75), (14, .int .i64 t72), (15, .string t107), (16, .int .i64 t108), (17, .int .i64 t109), (22, .int .i64 v162), (106, .bool (t56 == 0))]) (by kernel_rfl) ?_ rfl
     clear hs; intro a hs
     cases hb166 : (t56 == 0)
     ·replace H := ite_f H (beq_eq_false_iff_ne.1 hb166)
      rw [hb166] at hs
      refine go_pvs 14 57 [6] hs (L' := [(6, .bool false)]) (by kernel_rfl) ?_ rfl
      clear hs; intro a hs
      refine go_end (by kernel_rfl) ?_
      replace hw := hw.up 4
      replace hw := hw.up 4
      replace hw := hw.up 4
      replace hw := hw.up 4
      replace hw := hw.up 4
      replace hw := hw.only 5
      exact hJ4 false _ _ (hs.keep [6] (by kernel_rfl)) hw H
     ·replace H := ite_t H (beq_iff_eq.1 hb166)
      rw [hb166] at hs
      refine go_pvs 14 16 [8, 12, 13, 14, 15, 16, 17, 22, 106, 107, 108] hs (L' := [(8, .slice Aa13 (l0.take (mnn (l0.length : Int) 40 : Int).toNat).length cc14), (12, .string t65), (13, .slice Aa74 t71.length cc75), (14, .int .i64 t72), (15, .string t107), (16, .int .i64 t108), (17, .int .i64 t109), (22, .int .i64 v162), (106, .bool true), (107, .slice Aa58 t55.length cc59), (108, .slice Aa13 (l0.take (mnn (l0.length : Int) 40 : Int).toNat).length cc14)]) (by kernel_rfl) ?_ rfl
      clear hs; intro a hs
      obtain ⟨t168, hx169, H⟩ := bind_some H
      refine go_call hs (op := (Op.call { callee := (Callee.value (Operand.func 18)), args := #[(Operand.tmp 107), (Operand.tmp 108)], argTypes := #[32, 32] })) (ty := 4) (dst := some 109) (g := some (13, true)) (by kernel_rfl) (by kernel_rfl) (by kernel_rfl) (f := 18) (args := #[.slice Aa58 t55.length cc59, .slice Aa13 (l0.take (mnn (l0.length : Int) 40 : Int).toNat).length cc14]) (by kernel_rfl) (rivetref05_Same.calls Aa58 cc59 t55 Aa13 cc14 (l0.take (mnn (l0.length : Int) 40 : Int).toNat) t168 _ (Rd.of_own (hw.up 2)) (hc16 _ (hr0.old hw)) hx169) ?_
      rintro e wd170 ⟨rfl, hw171⟩
      refine ⟨_, rfl, ?_⟩
      replace hw := hw.call hw171
      intro a hs1
      replace hs : Slots a 149 [(8, .slice Aa13 (l0.take (mnn (l0.length : Int) 40 : Int).toNat).length cc14), (12, .string t65), (13, .slice Aa74 t71.length cc75), (14, .int .i64 t72), (15, .string t107), (16, .int .i64 t108), (17, .int .i64 t109), (22, .int .i64 v162), (106, .bool true), (109, .bool t168)] := hs1.keep [8, 12, 13, 14, 15, 16, 17, 22, 106, 109] (by kernel_rfl)
      clear hs1
      refine go_pvs 17 19 [8, 12, 13, 14, 15, 16, 17, 22, 111] hs (L' := [(8, .slice Aa13 (l0.take (mnn (l0.length : Int) 40 : Int).toNat).length cc14), (12, .string t65), (13, .slice Aa74 t71.length cc75), (14, .int .i64 t72), (15, .string t107), (16, .int .i64 t108), (17, .int .i64 t109), (22, .int .i64 v162), (111, .bool t168)]) (by kernel_rfl) ?_ rfl
      clear hs; intro a hs
      cases hb172 : t168
      ·replace H := ite_f H (ff hb172)
       rw [hb172] at hs
       refine go_pvs 19 57 [6] hs (L' := [(6, .bool false)]) (by kernel_rfl) ?_ rfl
       clear hs; intro a hs
       refine go_end (by kernel_rfl) ?_
       replace hw := hw.up 4
       replace hw := hw.up 4
       replace hw := hw.up 4
       replace hw := hw.up 4
       replace hw := hw.up 4
       replace hw := hw.only 5
       exact hJ4 false _ _ (hs.keep [6] (by kernel_rfl)) hw H
      ·replace H := ite_t H hb172
       rw [hb172] at hs
       refine go_pvs 19 20 [8, 12, 13, 14, 15, 16, 17, 22, 111, 112] hs (L' := [(8, .slice Aa13 (l0.take (mnn (l0.length : Int) 40 : Int).toNat).length cc14), (12, .string t65), (13, .slice Aa74 t71.length cc75), (14, .int .i64 t72), (15, .string t107), (16, .int .i64 t108), (17, .int .i64 t109), (22, .int .i64 v162), (111, .bool true), (112, .string t65)]) (by kernel_rfl) ?_ rfl
       clear hs; intro a hs
       obtain ⟨t174, hx175, H⟩ := bind_some H
       refine go_call hs (op := (Op.call { callee := (Callee.value (Operand.func 14)), args := #[(Operand.tmp 112)], argTypes := #[9] })) (ty := 4) (dst := some 113) (g := some (18, true)) (by kernel_rfl) (by kernel_rfl) (by kernel_rfl) (f := 14) (args := #[.string t65]) (by kernel_rfl) (le_Name.calls t65 t174 _ hx175) ?_
       rintro e wd176 ⟨rfl, hw177⟩
       refine ⟨_, rfl, ?_⟩
       replace hw := hw.call hw177
       intro a hs1
       replace hs : Slots a 149 [(8, .slice Aa13 (l0.take (mnn (l0.length : Int) 40 : Int).toNat).length cc14), (12, .string t65), (13, .slice Aa74 t71.length cc75), (14, .int .i64 t72), (15, .string t107), (16, .int .i64 t108), (17, .int .i64 t109), (22, .int .i64 v162), (111, .bool true), (113, .bool t174)] := hs1.keep [8, 12, 13, 14, 15, 16, 17, 22, 111, 113] (by kernel_rfl)
       clear hs1
       refine go_pvs 21 23 [8, 12, 13, 14, 15, 16, 17, 22, 115] hs (L' := [(8, .slice Aa13 (l0.take (mnn (l0.length : Int) 40 : Int).toNat).length cc14), (12, .string t65), (13, .slice Aa74 t71.length cc75), (14, .int .i64 t72), (15, .string t107), (16, .int .i64 t108), (17, .int .i64 t109), (22, .int .i64 v162), (115, .bool t174)]) (by kernel_rfl) ?_ rfl
       clear hs; intro a hs
       cases hb178 : t174
       ·replace H := ite_f H (ff hb178)
        rw [hb178] at hs
        refine go_pvs 23 57 [6] hs (L' := [(6, .bool false)]) (by kernel_rfl) ?_ rfl
        clear hs; intro a hs
        refine go_end (by kernel_rfl) ?_
        replace hw := hw.up 4
        replace hw := hw.up 4
        replace hw := hw.up 4
        replace hw := hw.up 4
        replace hw := hw.up 4
        replace hw := hw.only 5
        exact hJ4 false _ _ (hs.keep [6] (by kernel_rfl)) hw H
       ·replace H := ite_t H hb178
        rw [hb178] at hs
        refine go_pvs 23 27 [8, 12, 13, 15, 16, 17, 22, 119] hs (L' := [(8, .slice Aa13 (l0.take (mnn (l0.length : Int) 40 : Int).toNat).length cc14), (12, .string t65), (13, .slice Aa74 t71.length cc75), (15, .string t107), (16, .int .i64 t108), (17, .int .i64 t109), (22, .int .i64 v162), (119, .bool (t72 == 0))]) (by kernel_rfl) ?_ rfl
        clear hs; intro a hs
        cases hb179 : (t72 == 0)
        ·replace H := ite_f H (beq_eq_false_iff_ne.1 hb179)
         rw [hb179] at hs
         refine go_pvs 27 57 [6] hs (L' := [(6, .bool false)]) (by kernel_rfl) ?_ rfl
         clear hs; intro a hs
         refine go_end (by kernel_rfl) ?_
         replace hw := hw.up 4
         replace hw := hw.up 4
         replace hw := hw.up 4
         replace hw := hw.up 4
         replace hw := hw.up 4
         replace hw := hw.only 5
         exact hJ4 false _ _ (hs.keep [6] (by kernel_rfl)) hw H
        ·replace H := ite_t H (beq_iff_eq.1 hb179)
         rw [hb179] at hs
         refine go_pvs 27 31 [8, 12, 13, 15, 16, 22, 123] hs (L' := [(8, .slice Aa13 (l0.take (mnn (l0.length : Int) 40 : Int).toNat).length cc14), (12, .string t65), (13, .slice Aa74 t71.length cc75), (15, .string t107), (16, .int .i64 t108), (22, .int .i64 v162), (123, .bool (t109 == 0))]) (by kernel_rfl) ?_ rfl
         clear hs; intro a hs
         cases hb180 : (t109 == 0)
         ·replace H := ite_f H (beq_eq_false_iff_ne.1 hb180)
          rw [hb180] at hs
          refine go_pvs 31 57 [6] hs (L' := [(6, .bool false)]) (by kernel_rfl) ?_ rfl
          clear hs; intro a hs
          refine go_end (by kernel_rfl) ?_
          replace hw := hw.up 4
          replace hw := hw.up 4
          replace hw := hw.up 4
          replace hw := hw.up 4
          replace hw := hw.up 4
          replace hw := hw.only 5
          exact hJ4 false _ _ (hs.keep [6] (by kernel_rfl)) hw H
         ·replace H := ite_t H (beq_iff_eq.1 hb180)
          rw [hb180] at hs
          refine go_pvs 31 36 [8, 13, 16, 22, 128] hs (L' := [(8, .slice Aa13 (l0.take (mnn (l0.length : Int) 40 : Int).toNat).length cc14), (13, .slice Aa74 t71.length cc75), (16, .int .i64 t108), (22, .int .i64 v162), (128, .bool (t107.toList == t65.toList))]) (by kernel_rfl) ?_ rfl
          clear hs; intro a hs
          cases hb181 : (t107.toList == t65.toList)
          ·replace H := ite_f H (ff hb181)
           rw [hb181] at hs
           refine go_pvs 36 57 [6] hs (L' := [(6, .bool false)]) (by kernel_rfl) ?_ rfl
           clear hs; intro a hs
           refine go_end (by kernel_rfl) ?_
           replace hw := hw.up 4
           replace hw := hw.up 4
           replace hw := hw.up 4
           replace hw := hw.up 4
           replace hw := hw.up 4
           replace hw := hw.only 5
           exact hJ4 false _ _ (hs.keep [6] (by kernel_rfl)) hw H
          ·replace H := ite_t H hb181
           rw [hb181] at hs
           refine go_pvs 36 42 [8, 13, 22, 134] hs (L' := [(8, .slice Aa13 (l0.take (mnn (l0.length : Int) 40 : Int).toNat).length cc14), (13, .slice Aa74 t71.length cc75), (22, .int .i64 v162), (134, .bool (t108 == (t71.length : Int)))]) (by kernel_rfl) ?_ rfl
           clear hs; intro a hs
           cases hb182 : (t108 == (t71.length : Int))
           ·replace H := ite_f H (beq_eq_false_iff_ne.1 hb182)
            rw [hb182] at hs
            refine go_pvs 42 57 [6] hs (L' := [(6, .bool false)]) (by kernel_rfl) ?_ rfl
            clear hs; intro a hs
            refine go_end (by kernel_rfl) ?_
            replace hw := hw.up 4
            replace hw := hw.up 4
            replace hw := hw.up 4
            replace hw := hw.up 4
            replace hw := hw.up 4
            replace hw := hw.only 5
            exact hJ4 false _ _ (hs.keep [6] (by kernel_rfl)) hw H
           ·replace H := ite_t H (beq_iff_eq.1 hb182)
            rw [hb182] at hs
            refine go_pvs 42 48 [8, 22, 140] hs (L' := [(8, .slice Aa13 (l0.take (mnn (l0.length : Int) 40 : Int).toNat).length cc14), (22, .int .i64 v162), (140, .bool (((t71.length : Int).tmod 4) == 0))]) (by kernel_rfl) ?_ rfl
            clear hs; intro a hs
            cases hb183 : (((t71.length : Int).tmod 4) == 0)
            ·replace H := ite_f H (beq_eq_false_iff_ne.1 hb183)
             rw [hb183] at hs
             refine go_pvs 48 57 [6] hs (L' := [(6, .bool false)]) (by kernel_rfl) ?_ rfl
             clear hs; intro a hs
             refine go_end (by kernel_rfl) ?_
             replace hw := hw.up 4
             replace hw := hw.up 4
             replace hw := hw.up 4
             replace hw := hw.up 4
             replace hw := hw.up 4
             replace hw := hw.only 5
             exact hJ4 false _ _ (hs.keep [6] (by kernel_rfl)) hw H
            ·replace H := ite_t H (beq_iff_eq.1 hb183)
             rw [hb183] at hs
             refine go_pvs 48 51 [8, 140, 143] hs (L' := [(8, .slice Aa13 (l0.take (mnn (l0.length : Int) 40 : Int).toNat).length cc14), (140, .bool true), (143, .bool (v162 == 3))]) (by kernel_rfl) ?_ rfl
             clear hs; intro a hs
             cases hb184 : (v162 == 3)
             ·replace H := ite_f H (beq_eq_false_iff_ne.1 hb184)
              rw [hb184] at hs
              refine go_pvs 51 57 [6] hs (L' := [(6, .bool (((l0.take (mnn (l0.length : Int) 40 : Int).toNat).length : Int) == 0))]) (by kernel_rfl) ?_ rfl
              clear hs; intro a hs
              refine go_end (by kernel_rfl) ?_
              replace hw := hw.up 4
              replace hw := hw.up 4
              replace hw := hw.up 4
              replace hw := hw.up 4
              replace hw := hw.up 4
              replace hw := hw.only 5
              exact hJ4 (((l0.take (mnn (l0.length : Int) 40 : Int).toNat).length : Int) == 0) _ _ (hs.keep [6] (by kernel_rfl)) hw H
             ·replace H := ite_t H (beq_iff_eq.1 hb184)
              rw [hb184] at hs
              refine go_pvs 51 57 [6] hs (L' := [(6, .bool true)]) (by kernel_rfl) ?_ rfl
              clear hs; intro a hs
              refine go_end (by kernel_rfl) ?_
              replace hw := hw.up 4
              replace hw := hw.up 4
              replace hw := hw.up 4
              replace hw := hw.up 4
              replace hw := hw.up 4
              replace hw := hw.only 5
              exact hJ4 true _ _ (hs.keep [6] (by kernel_rfl)) hw H
  refine go_seq_k fun K142 hK142 => ?_
  have hJ2 : ∀ (v144 : Bool) (a : Act) (w : World), Slots a 149 [(7, .bool t4), (8, .slice Aa13 (l0.take (mnn (l0.length : Int) 40 : Int).toNat).length cc14), (9, .slice Aa22 t20.length cc23), (10, .slice Aa58 t55.length cc59), (11, .int .i64 t56), (12, .string t65), (13, .slice Aa74 t71.length cc75), (14, .int .i64 t72), (15, .string t107), (16, .int .i64 t108), (17, .int .i64 t109), (22, .int .i64 0), (81, .bool v144)] → St [] w0 w [own 5 (eI .u8) Aa101 cc102 ((([] : List Int) ++ t71) ++ (l2.take (mnn (l2.length : Int) 200 : Int).toNat)), own 5 (eI .u8) Aa74 cc75 t71, own 43 (eI .u32) Aa58 cc59 t55, own 5 (eI .u8) Aa49 cc50 ((([] : List Int) ++ t20) ++ (l2.take (mnn (l2.length : Int) 200 : Int).toNat)), own 5 (eI .u8) Aa22 cc23 t20] → rivetlaw07_LeBack.j2 t20 l0 t4 t56 t55 t65 t72 t109 t107 t108 t71 v144 = some r → K142 a w := by
   intro v144 a w hs hw H
   unfold rivetlaw07_LeBack.j2 at H
   refine hK142 _ _ ?_
   refine go_cond hs v144 (by kernel_rfl) (fun hc => ?_) (fun hc => ?_)
   ·replace H := ite_t H hc
    have hb145 := hc
    rw [hb145] at hs
    refine go_region ?_
    refine go_pvs 0 4 [7, 8, 9, 10, 11, 12, 13, 14, 15, 16, 17, 83, 86] hs (L' := [(7, .bool t4), (8, .slice Aa13 (l0.take (mnn (l0.length : Int) 40 : Int).toNat).length cc14), (9, .slice Aa22 t20.length cc23), (10, .slice Aa58 t55.length cc59), (11, .int .i64 t56), (12, .string t65), (13, .slice Aa74 t71.length cc75), (14, .int .i64 t72), (15, .string t107), (16, .int .i64 t108), (17, .int .i64 t109), (83, .slice Aa22 t20.length cc23), (86, .int .i64 (w64 ((t20.length : Int) - 1)))]) (by kernel_rfl) ?_ rfl
    clear hs; intro a hs
    obtain ⟨hp146, H⟩ := ite_only H
    obtain ⟨Aa147, cc148, hx149, hc150⟩ := c_hi (P := Tryd.prog) (ty := 22) (E := (eI .u8)) (T := 5) (t := 22) (x := (Operand.tmp 83)) (y := (Operand.tmp 86)) (k := .i64) hs (by kernel_rfl) (by kernel_rfl) (Rd.of_own (hw.up 4)) (by kernel_rfl) (by kernel_rfl) hp146.1 hp146.2
    refine go_run hs (op := (Op.slice 22 (Operand.tmp 83) none (some (Operand.tmp 86)) none)) (ty := 22) (dst := some 87) (g := none) (by kernel_rfl) (by kernel_rfl) (by kernel_rfl) hx149 [7, 8, 9, 10, 11, 12, 13, 14, 15, 16, 17, 87] (L' := [(7, .bool t4), (8, .slice Aa13 (l0.take (mnn (l0.length : Int) 40 : Int).toNat).length cc14), (9, .slice Aa22 t20.length cc23), (10, .slice Aa58 t55.length cc59), (11, .int .i64 t56), (12, .string t65), (13, .slice Aa74 t71.length cc75), (14, .int .i64 t72), (15, .string t107), (16, .int .i64 t108), (17, .int .i64 t109), (87, .slice Aa147 (t20.take (w64 ((t20.length : Int) - 1) : Int).toNat).length cc148)]) (by kernel_rfl) ?_
    clear hs; intro a hs
    refine go_pvs 5 7 [7, 8, 9, 10, 11, 12, 13, 14, 15, 16, 17, 87, 89] hs (L' := [(7, .bool t4), (8, .slice Aa13 (l0.take (mnn (l0.length : Int) 40 : Int).toNat).length cc14), (9, .slice Aa22 t20.length cc23), (10, .slice Aa58 t55.length cc59), (11, .int .i64 t56), (12, .string t65), (13, .slice Aa74 t71.length cc75), (14, .int .i64 t72), (15, .string t107), (16, .int .i64 t108), (17, .int .i64 t109), (87, .slice Aa147 (t20.take (w64 ((t20.length : Int) - 1) : Int).toNat).length cc148), (89, .int .i64 ((l0.take (mnn (l0.length : Int) 40 : Int).toNat).length : Int))]) (by kernel_rfl) ?_ rfl
    clear hs; intro a hs
    obtain ⟨⟨t153, t154⟩, hx155, H⟩ := bind_some H
    refine go_call hs (op := (Op.call { callee := (Callee.value (Operand.func 16)), args := #[(Operand.tmp 87), (Operand.tmp 89)], argTypes := #[22, 3] })) (ty := 33) (dst := some 90) (g := none) (by kernel_rfl) (by kernel_rfl) (by kernel_rfl) (f := 16) (args := #[.slice Aa147 (t20.take (w64 ((t20.length : Int) - 1) : Int).toNat).length cc148, .int .i64 ((l0.take (mnn (l0.length : Int) 40 : Int).toNat).length : Int)]) (by kernel_rfl) (le_Take.calls Aa147 cc148 (t20.take (w64 ((t20.length : Int) - 1) : Int).toNat) ((l0.take (mnn (l0.length : Int) 40 : Int).toNat).length : Int) (t153, t154) _ (hc150 _ (Rd.of_own (hw.up 4))) hx155) ?_
    rintro e wd158 ⟨Aa156, cc157, rfl, hw159⟩
    refine ⟨_, rfl, ?_⟩
    replace hw := hw.call hw159
    intro a hs1
    replace hs : Slots a 149 [(7, .bool t4), (8, .slice Aa13 (l0.take (mnn (l0.length : Int) 40 : Int).toNat).length cc14), (9, .slice Aa22 t20.length cc23), (10, .slice Aa58 t55.length cc59), (11, .int .i64 t56), (12, .string t65), (13, .slice Aa74 t71.length cc75), (14, .int .i64 t72), (15, .string t107), (16, .int .i64 t108), (17, .int .i64 t109), (90, .tuple #[.slice Aa156 t153.length cc157, .int .i64 t154])] := hs1.keep [7, 8, 9, 10, 11, 12, 13, 14, 15, 16, 17, 90] (by kernel_rfl)
    clear hs1
    refine go_pvs 8 12 [7, 8, 9, 10, 11, 12, 13, 14, 15, 16, 17, 22] hs (L' := [(7, .bool t4), (8, .slice Aa13 (l0.take (mnn (l0.length : Int) 40 : Int).toNat).length cc14), (9, .slice Aa22 t20.length cc23), (10, .slice Aa58 t55.length cc59), (11, .int .i64 t56), (12, .string t65), (13, .slice Aa74 t71.length cc75), (14, .int .i64 t72), (15, .string t107), (16, .int .i64 t108), (17, .int .i64 t109), (22, .int .i64 t154)]) (by kernel_rfl) ?_ rfl
    clear hs; intro a hs
    refine go_end (by kernel_rfl) ?_
    replace hw := hw.up 5
    replace hw := hw.up 5
    replace hw := hw.up 5
    replace hw := hw.up 5
    replace hw := hw.up 5
    replace hw := hw.only 5
    exact hJ3 t154 _ _ (hs.keep [7, 8, 9, 10, 11, 12, 13, 14, 15, 16, 17, 22] (by kernel_rfl)) hw H
   ·replace H := ite_f H (ff hc)
    have hb161 := hc
    rw [hb161] at hs
    refine wp_skip ?_
    replace hw := hw.up 4
    replace hw := hw.up 4
    replace hw := hw.up 4
    replace hw := hw.up 4
    replace hw := hw.up 4
    replace hw := hw.only 5
    exact hJ3 0 _ _ (hs.keep [7, 8, 9, 10, 11, 12, 13, 14, 15, 16, 17, 22] (by kernel_rfl)) hw H
  refine go_region ?_
  refine go_pvs 0 4 [7, 8, 9, 10, 11, 12, 13, 14, 15, 16, 17, 22, 77] hs (L' := [(7, .bool t4), (8, .slice Aa13 (l0.take (mnn (l0.length : Int) 40 : Int).toNat).length cc14), (9, .slice Aa22 t20.length cc23), (10, .slice Aa58 t55.length cc59), (11, .int .i64 t56), (12, .string t65), (13, .slice Aa74 t71.length cc75), (14, .int .i64 t72), (15, .string t107), (16, .int .i64 t108), (17, .int .i64 t109), (22, .int .i64 0), (77, .bool (decide (((l0.take (mnn (l0.length : Int) 40 : Int).toNat).length : Int) > 0)))]) (by kernel_rfl) ?_ rfl
  clear hs; intro a hs
  cases hb143 : (decide (((l0.take (mnn (l0.length : Int) 40 : Int).toNat).length : Int) > 0))
  ·replace H := ite_f H (of_decide_eq_false hb143)
   rw [hb143] at hs
   refine go_pvs 4 8 [7, 8, 9, 10, 11, 12, 13, 14, 15, 16, 17, 22, 81] hs (L' := [(7, .bool t4), (8, .slice Aa13 (l0.take (mnn (l0.length : Int) 40 : Int).toNat).length cc14), (9, .slice Aa22 t20.length cc23), (10, .slice Aa58 t55.length cc59), (11, .int .i64 t56), (12, .string t65), (13, .slice Aa74 t71.length cc75), (14, .int .i64 t72), (15, .string t107), (16, .int .i64 t108), (17, .int .i64 t109), (22, .int .i64 0), (81, .bool false)]) (by kernel_rfl) ?_ rfl
   clear hs; intro a hs
   refine go_end (by kernel_rfl) ?_
   replace hw := hw.up 4
   replace hw := hw.up 4
   replace hw := hw.up 4
   replace hw := hw.up 4
   replace hw := hw.up 4
   replace hw := hw.only 5
   exact hJ2 false _ _ (hs.keep [7, 8, 9, 10, 11, 12, 13, 14, 15, 16, 17, 22, 81] (by kernel_rfl)) hw H
  ·replace H := ite_t H (of_decide_eq_true hb143)
   rw [hb143] at hs
   refine go_pvs 4 8 [7, 8, 9, 10, 11, 12, 13, 14, 15, 16, 17, 22, 81] hs (L' := [(7, .bool t4), (8, .slice Aa13 (l0.take (mnn (l0.length : Int) 40 : Int).toNat).length cc14), (9, .slice Aa22 t20.length cc23), (10, .slice Aa58 t55.length cc59), (11, .int .i64 t56), (12, .string t65), (13, .slice Aa74 t71.length cc75), (14, .int .i64 t72), (15, .string t107), (16, .int .i64 t108), (17, .int .i64 t109), (22, .int .i64 0), (81, .bool (decide ((t20.length : Int) > 0)))]) (by kernel_rfl) ?_ rfl
   clear hs; intro a hs
   refine go_end (by kernel_rfl) ?_
   replace hw := hw.up 4
   replace hw := hw.up 4
   replace hw := hw.up 4
   replace hw := hw.up 4
   replace hw := hw.up 4
   replace hw := hw.only 5
   exact hJ2 (decide ((t20.length : Int) > 0)) _ _ (hs.keep [7, 8, 9, 10, 11, 12, 13, 14, 15, 16, 17, 22, 81] (by kernel_rfl)) hw H
 clear H
 refine go_loop (σ := Int) (fun σ a w => Slots a 149 [(7, .bool t4), (8, .slice Aa13 (l0.take (mnn (l0.length : Int) 40 : Int).toNat).length cc14), (9, .slice Aa22 t20.length cc23), (10, .slice Aa58 t55.length cc59), (11, .int .i64 t56), (12, .string t65), (13, .slice Aa74 t71.length cc75), (14, .int .i64 t72), (15, .string t107), (16, .int .i64 t108), (17, .int .i64 t109), (18, .int .i64 σ)] ∧ St [] w0 w [own 5 (eI .u8) Aa101 cc102 ((([] : List Int) ++ t71) ++ (l2.take (mnn (l2.length : Int) 200 : Int).toNat)), own 5 (eI .u8) Aa74 cc75 t71, own 43 (eI .u32) Aa58 cc59 t55, own 5 (eI .u8) Aa49 cc50 ((([] : List Int) ++ t20) ++ (l2.take (mnn (l2.length : Int) 200 : Int).toNat)), own 5 (eI .u8) Aa22 cc23 t20]) hl115 (by exact ⟨hs.keep [7, 8, 9, 10, 11, 12, 13, 14, 15, 16, 17, 18] (by kernel_rfl), hw⟩) ?_
 rintro v116 a w ⟨hs, hw⟩ o H hr115
 replace hs : Slots a 149 [(7, .bool t4), (8, .slice Aa13 (l0.take (mnn (l0.length : Int) 40 : Int).toNat).length cc14), (9, .slice Aa22 t20.length cc23), (10, .slice Aa58 t55.length cc59), (11, .int .i64 t56), (12, .string t65), (13, .slice Aa74 t71.length cc75), (14, .int .i64 t72), (15, .string t107), (16, .int .i64 t108), (17, .int .i64 t109), (18, .int .i64 v116)] := hs
 replace hw : St [] w0 w [own 5 (eI .u8) Aa101 cc102 ((([] : List Int) ++ t71) ++ (l2.take (mnn (l2.length : Int) 200 : Int).toNat)), own 5 (eI .u8) Aa74 cc75 t71, own 43 (eI .u32) Aa58 cc59 t55, own 5 (eI .u8) Aa49 cc50 ((([] : List Int) ++ t20) ++ (l2.take (mnn (l2.length : Int) 200 : Int).toNat)), own 5 (eI .u8) Aa22 cc23 t20] := hw
 replace H : rivetlaw07_LeBack.b115 t71 v116 = some o := H
 unfold rivetlaw07_LeBack.b115 at H
 refine go_seq_k fun K117 hK117 => ?_
 refine go_seq_k fun K118 hK118 => ?_
 refine go_region ?_
 refine go_pvs 0 4 [7, 8, 9, 10, 11, 12, 13, 14, 15, 16, 17, 18, 61] hs (L' := [(7, .bool t4), (8, .slice Aa13 (l0.take (mnn (l0.length : Int) 40 : Int).toNat).length cc14), (9, .slice Aa22 t20.length cc23), (10, .slice Aa58 t55.length cc59), (11, .int .i64 t56), (12, .string t65), (13, .slice Aa74 t71.length cc75), (14, .int .i64 t72), (15, .string t107), (16, .int .i64 t108), (17, .int .i64 t109), (18, .int .i64 v116), (61, .bool (decide (v116 < (t71.length : Int))))]) (by kernel_rfl) ?_ rfl
 clear hs; intro a hs
 refine go_end (by kernel_rfl) ?_
 refine hK118 _ _ ?_
 refine go_cond hs (decide (v116 < (t71.length : Int))) (by kernel_rfl) (fun hc => ?_) (fun hc => ?_)
 ·replace H := ite_t H (of_decide_eq_true hc)
  have hb119 := hc
  rw [hb119] at hs
  refine wp_skip ?_
  refine hK117 _ _ ?_
  refine go_seq_k fun K120 hK120 => ?_
  refine wp_block ?_
  refine go_seq_k fun K121 hK121 => ?_
  refine go_region ?_
  refine go_pvs 0 2 [7, 8, 9, 10, 11, 12, 13, 14, 15, 16, 17, 18, 65, 66] hs (L' := [(7, .bool t4), (8, .slice Aa13 (l0.take (mnn (l0.length : Int) 40 : Int).toNat).length cc14), (9, .slice Aa22 t20.length cc23), (10, .slice Aa58 t55.length cc59), (11, .int .i64 t56), (12, .string t65), (13, .slice Aa74 t71.length cc75), (14, .int .i64 t72), (15, .string t107), (16, .int .i64 t108), (17, .int .i64 t109), (18, .int .i64 v116), (65, .slice Aa74 t71.length cc75), (66, .int .i64 v116)]) (by kernel_rfl) ?_ rfl
  clear hs; intro a hs
  obtain ⟨hp122, H⟩ := ite_only H
  obtain ⟨Aa123, cc124, hx125, hc126⟩ := c_hi (P := Tryd.prog) (ty := 22) (E := (eI .u8)) (T := 5) (t := 22) (x := (Operand.tmp 65)) (y := (Operand.tmp 66)) (k := .i64) hs (by kernel_rfl) (by kernel_rfl) (Rd.of_own (hw.up 1)) (by kernel_rfl) (by kernel_rfl) hp122.1 hp122.2
  refine go_run hs (op := (Op.slice 22 (Operand.tmp 65) none (some (Operand.tmp 66)) none)) (ty := 22) (dst := some 67) (g := none) (by kernel_rfl) (by kernel_rfl) (by kernel_rfl) hx125 [7, 8, 9, 10, 11, 12, 13, 14, 15, 16, 17, 18, 67] (L' := [(7, .bool t4), (8, .slice Aa13 (l0.take (mnn (l0.length : Int) 40 : Int).toNat).length cc14), (9, .slice Aa22 t20.length cc23), (10, .slice Aa58 t55.length cc59), (11, .int .i64 t56), (12, .string t65), (13, .slice Aa74 t71.length cc75), (14, .int .i64 t72), (15, .string t107), (16, .int .i64 t108), (17, .int .i64 t109), (18, .int .i64 v116), (67, .slice Aa123 (t71.take (v116 : Int).toNat).length cc124)]) (by kernel_rfl) ?_
  clear hs; intro a hs
  obtain ⟨⟨t129, t130, t131⟩, hx132, H⟩ := bind_some H
  refine go_call hs (op := (Op.call { callee := (Callee.value (Operand.func 11)), args := #[(Operand.tmp 67)], argTypes := #[22] })) (ty := 27) (dst := some 68) (g := none) (by kernel_rfl) (by kernel_rfl) (by kernel_rfl) (f := 11) (args := #[.slice Aa123 (t71.take (v116 : Int).toNat).length cc124]) (by kernel_rfl) (le_TakeName.calls Aa123 cc124 (t71.take (v116 : Int).toNat) (t129, t130, t131) _ (hc126 _ (Rd.of_own (hw.up 1))) hx132) ?_
  rintro e wd133 ⟨rfl, hw134⟩
  refine ⟨_, rfl, ?_⟩
  replace hw := hw.call hw134
  intro a hs1
  replace hs : Slots a 149 [(7, .bool t4), (8, .slice Aa13 (l0.take (mnn (l0.length : Int) 40 : Int).toNat).length cc14), (9, .slice Aa22 t20.length cc23), (10, .slice Aa58 t55.length cc59), (11, .int .i64 t56), (12, .string t65), (13, .slice Aa74 t71.length cc75), (14, .int .i64 t72), (15, .string t107), (16, .int .i64 t108), (17, .int .i64 t109), (18, .int .i64 v116), (68, .tuple #[.string t129, .int .i64 t130, .int .i64 t131])] := hs1.keep [7, 8, 9, 10, 11, 12, 13, 14, 15, 16, 17, 18, 68] (by kernel_rfl)
  clear hs1
  refine go_pvs 4 11 [7, 8, 9, 10, 11, 12, 13, 14, 15, 16, 17, 18, 21] hs (L' := [(7, .bool t4), (8, .slice Aa13 (l0.take (mnn (l0.length : Int) 40 : Int).toNat).length cc14), (9, .slice Aa22 t20.length cc23), (10, .slice Aa58 t55.length cc59), (11, .int .i64 t56), (12, .string t65), (13, .slice Aa74 t71.length cc75), (14, .int .i64 t72), (15, .string t107), (16, .int .i64 t108), (17, .int .i64 t109), (18, .int .i64 v116), (21, .int .i64 t131)]) (by kernel_rfl) ?_ rfl
  clear hs; intro a hs
  refine go_end (by kernel_rfl) ?_
  refine hK121 _ _ ?_
  refine go_seq_k fun K135 hK135 => ?_
  refine go_region ?_
  refine go_pvs 0 2 [7, 8, 9, 10, 11, 12, 13, 14, 15, 16, 17, 18, 73] hs (L' := [(7, .bool t4), (8, .slice Aa13 (l0.take (mnn (l0.length : Int) 40 : Int).toNat).length cc14), (9, .slice Aa22 t20.length cc23), (10, .slice Aa58 t55.length cc59), (11, .int .i64 t56), (12, .string t65), (13, .slice Aa74 t71.length cc75), (14, .int .i64 t72), (15, .string t107), (16, .int .i64 t108), (17, .int .i64 t109), (18, .int .i64 v116), (73, .bool (t131 != 3))]) (by kernel_rfl) ?_ rfl
  clear hs; intro a hs
  refine go_end (by kernel_rfl) ?_
  refine hK135 _ _ ?_
  refine go_cond hs (t131 != 3) (by kernel_rfl) (fun hc => ?_) (fun hc => ?_)
  ·replace H := ite_f H (bne_iff_ne.1 hc)
   have hb136 := hc
   rw [hb136] at hs
   refine go_seq_k fun K137 hK137 => ?_
   refine go_region ?_
   refine go_pvs 0 1 [6] hs (L' := [(6, .bool false)]) (by kernel_rfl) ?_ rfl
   clear hs; intro a hs
   refine go_end (by kernel_rfl) ?_
   refine hK137 _ _ ?_
   refine wp_ret ?_
   refine ib_ret ?_
   refine th_ret ?_
   refine th_ret ?_
   refine ib_ret ?_
   refine th_ret ?_
   rw [← hr115 _ (Option.some.inj H).symm] at HX115
   replace H : some false = some r := HX115
   obtain rfl := Option.some.inj H
   refine ret1 (t := 6) (v := .bool false) hs (by kernel_rfl) (by kernel_rfl) ?_
   exact ⟨rfl, hw.only 0⟩
  ·replace H := ite_t H (bne_eq_false_iff_eq.1 hc)
   have hb138 := hc
   rw [hb138] at hs
   refine wp_skip ?_
   refine ib_norm ?_
   refine hK120 _ _ ?_
   refine go_region ?_
   refine go_pvs 0 3 [7, 8, 9, 10, 11, 12, 13, 14, 15, 16, 17, 18] hs (L' := [(7, .bool t4), (8, .slice Aa13 (l0.take (mnn (l0.length : Int) 40 : Int).toNat).length cc14), (9, .slice Aa22 t20.length cc23), (10, .slice Aa58 t55.length cc59), (11, .int .i64 t56), (12, .string t65), (13, .slice Aa74 t71.length cc75), (14, .int .i64 t72), (15, .string t107), (16, .int .i64 t108), (17, .int .i64 t109), (18, .int .i64 (w64 (v116 + 1)))]) (by kernel_rfl) ?_ rfl
   clear hs; intro a hs
   refine go_end (by kernel_rfl) ?_
   replace hw := hw.up 4
   replace hw := hw.up 4
   replace hw := hw.up 4
   replace hw := hw.up 4
   replace hw := hw.up 4
   replace hw := hw.only 5
   exact round_end (w64 (v116 + 1)) (Option.some.inj H).symm ⟨hs.keep [7, 8, 9, 10, 11, 12, 13, 14, 15, 16, 17, 18] (by kernel_rfl), hw⟩
 ·replace H := ite_f H (of_decide_eq_false hc)
  have hb139 := hc
  rw [hb139] at hs
  refine wp_exit ?_
  refine th_exit ?_
  refine th_exit ?_
  refine in_block ?_
  replace hw := hw.up 4
  replace hw := hw.up 4
  replace hw := hw.up 4
  replace hw := hw.up 4
  replace hw := hw.up 4
  replace hw := hw.only 5
  rw [← hr115 _ (Option.some.inj H).symm] at HX115
  exact hJ1 _ _ (hs.keep [7, 8, 9, 10, 11, 12, 13, 14, 15, 16, 17] (by kernel_rfl)) hw HX115

end Go.Proofs.YtckefpenekolhaaDoor.T07
