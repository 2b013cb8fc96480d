/- YtckefpenekolhaaDoorT07zLeNames: Go functions told as plain ones, each with a proof that its call comes to what is told, part 1. Condition of each: that the plain function comes to a value. -/
import Derived.Test.YtckefpenekolhaaDoorT07
import Derived.Test.YtckefpenekolhaaDoorEL
import Derived.Test.YtckefpenekolhaaDoorProg
namespace Go.Proofs.YtckefpenekolhaaDoor.T07
open Go Go.RowKit Go.Proofs.YtckefpenekolhaaDoor.E
set_option linter.unusedVariables false
set_option linter.unusedSimpArgs false

/-! rivet/rivetlaw07.LeNames: function 3 -/
noncomputable def rivetlaw07_LeNames.j1 (v82 : Bool) : Option Bool := some v82
noncomputable def rivetlaw07_LeNames (a0 : ByteArray) (l1 : List Int) : Option Bool := ((rivetlaw07_shown).bind fun t4 => ((if 0 ≤ (0 : Int) ∧ (0 : Int) ≤ (mnn (a0.size : Int) 30) ∧ (mnn (a0.size : Int) 30) ≤ (a0.size : Int) then (nm (a0.extract ((0 : Int) : Int).toNat ((mnn (a0.size : Int) 30) : Int).toNat) fun y10 => ((le_PutName y10).bind fun ⟨t13, t14⟩ => (((rivetref07_PutName y10).bind fun ⟨t23, t24⟩ => ((if 0 ≤ (mnn (l1.length : Int) 200) ∧ (mnn (l1.length : Int) 200) ≤ (l1.length : Int) then ((le_TakeName (l1.take (mnn (l1.length : Int) 200 : Int).toNat)).bind fun ⟨t42, t43, t44⟩ => ((if 0 ≤ (mnn (l1.length : Int) 200) ∧ (mnn (l1.length : Int) 200) ≤ (l1.length : Int) then ((rivetref07_TakeName (l1.take (mnn (l1.length : Int) 200 : Int).toNat)).bind fun ⟨t59, t60, t61⟩ => ((if t4 = true then ((le_Name y10).bind fun t68 => (((rivetref07_Name y10).bind fun t73 => ((if (t68 == t73) = true then (if ((strOfNums t13).toList == (strOfNums t23).toList) = true then (if t14 = t24 then (if (t42.toList == t59.toList) = true then (if t43 = t60 then rivetlaw07_LeNames.j1 (t44 == t61) else rivetlaw07_LeNames.j1 false) else rivetlaw07_LeNames.j1 false) else rivetlaw07_LeNames.j1 false) else rivetlaw07_LeNames.j1 false) else rivetlaw07_LeNames.j1 false))))) else rivetlaw07_LeNames.j1 false))) else none))) else none)))))) else none)))
set_option maxRecDepth 100000 in
set_option maxHeartbeats 4000000 in
theorem rivetlaw07_LeNames.calls (a0 : ByteArray) (A1 : Option Addr) (c1 : Nat) (l1 : List Int) (r : Bool) (w0 : World) (hr1 : Rd w0 (eI .u8) A1 c1 l1) (H : rivetlaw07_LeNames a0 l1 = some r) :
    Calls Tryd.prog 3 #[.string a0, .slice A1 l1.length c1] w0 fun e w' => e = .returned (.bool r) ∧ St [] w0 w' [] := by
 have hw : St [] w0 w0 [] := St.nil w0
 unfold rivetlaw07_LeNames at H
 refine go_fn Tryd.func3 rfl 82 Tryd.ntmps3 [(0, .string a0), (1, .slice A1 l1.length c1)] (by kernel_rfl) rfl ?_
 intro a hs
 refine go_seq_k fun K1 hK1 => ?_
 refine go_region ?_
 refine go_pvs 0 1 [0, 1] hs (L' := [(0, .string a0), (1, .slice A1 l1.length c1)]) (by kernel_rfl) ?_ rfl
 clear hs; intro a hs
 refine go_end (by kernel_rfl) ?_
 refine hK1 _ _ ?_
 refine go_seq_k fun K2 hK2 => ?_
 refine go_region ?_
 obtain ⟨t4, hx5, H⟩ := bind_some H
 refine go_call hs (op := (Op.call { callee := (Callee.value (Operand.func 8)), args := #[], argTypes := #[] })) (ty := 4) (dst := some 17) (g := none) (by kernel_rfl) (by kernel_rfl) (by kernel_rfl) (f := 8) (args := #[]) (by kernel_rfl) (rivetlaw07_shown.calls t4 _ hx5) ?_
 rintro e wd6 ⟨rfl, hw7⟩
 refine ⟨_, rfl, ?_⟩
 replace hw := hw.call hw7
 intro a hs1
 replace hs : Slots a 82 [(0, .string a0), (1, .slice A1 l1.length c1), (17, .bool t4)] := hs1.keep [0, 1, 17] (by kernel_rfl)
 clear hs1
 refine go_pvs 1 2 [0, 1, 5] hs (L' := [(0, .string a0), (1, .slice A1 l1.length c1), (5, .bool t4)]) (by kernel_rfl) ?_ rfl
 clear hs; intro a hs
 refine go_end (by kernel_rfl) ?_
 refine hK2 _ _ ?_
 refine go_seq_k fun K8 hK8 => ?_
 refine go_region ?_
 refine go_pvs 0 4 [1, 5, 18, 21] hs (L' := [(1, .slice A1 l1.length c1), (5, .bool t4), (18, .string a0), (21, .int .i64 (mnn (a0.size : Int) 30))]) (by kernel_rfl) ?_ rfl
 clear hs; intro a hs
 obtain ⟨hp9, H⟩ := ite_only H
 refine go_run hs (op := (Op.slice 9 (Operand.tmp 18) none (some (Operand.tmp 21)) none)) (ty := 9) (dst := some 22) (g := none) (by kernel_rfl) (by kernel_rfl) (by kernel_rfl) (x_scut (s := a0) (k := .i64) (k' := .i64) (l0 := (0 : Int)) (h := (mnn (a0.size : Int) 30)) (by kernel_rfl) (by kernel_rfl) (Or.inr ⟨rfl, rfl⟩) (Or.inl (by kernel_rfl)) hp9.1 hp9.2.1 hp9.2.2) [1, 5, 22] (L' := [(1, .slice A1 l1.length c1), (5, .bool t4), (22, .string (a0.extract ((0 : Int) : Int).toNat ((mnn (a0.size : Int) 30) : Int).toNat))]) (by kernel_rfl) ?_
 clear hs; intro a hs
 refine go_pvs 5 6 [1, 5, 6] hs (L' := [(1, .slice A1 l1.length c1), (5, .bool t4), (6, .string (a0.extract ((0 : Int) : Int).toNat ((mnn (a0.size : Int) 30) : Int).toNat))]) (by kernel_rfl) ?_ rfl
 clear hs; intro a hs
 obtain ⟨y10, hy10, H⟩ := nm_some H
 replace hs : Slots a 82 [(1, .slice A1 l1.length c1), (5, .bool t4), (6, .string y10)] := by rw [hy10]; exact hs
 refine go_end (by kernel_rfl) ?_
 refine hK8 _ _ ?_
 refine go_seq_k fun K11 hK11 => ?_
 refine go_region ?_
 refine go_pvs 0 1 [1, 5, 6, 24] hs (L' := [(1, .slice A1 l1.length c1), (5, .bool t4), (6, .string y10), (24, .string y10)]) (by kernel_rfl) ?_ rfl
 clear hs; intro a hs
 obtain ⟨⟨t13, t14⟩, hx15, H⟩ := bind_some H
 refine go_call hs (op := (Op.call { callee := (Callee.value (Operand.func 9)), args := #[(Operand.tmp 24)], argTypes := #[9] })) (ty := 25) (dst := some 25) (g := none) (by kernel_rfl) (by kernel_rfl) (by kernel_rfl) (f := 9) (args := #[.string y10]) (by kernel_rfl) (le_PutName.calls y10 (t13, t14) _ hx15) ?_
 rintro e wd18 ⟨Aa16, cc17, rfl, hw19⟩
 refine ⟨_, rfl, ?_⟩
 replace hw := hw.call hw19
 intro a hs1
 replace hs : Slots a 82 [(1, .slice A1 l1.length c1), (5, .bool t4), (6, .string y10), (25, .tuple #[.slice Aa16 t13.length cc17, .int .i64 t14])] := hs1.keep [1, 5, 6, 25] (by kernel_rfl)
 clear hs1
 refine go_pvs 2 7 [1, 5, 6, 7, 8] hs (L' := [(1, .slice A1 l1.length c1), (5, .bool t4), (6, .string y10), (7, .slice Aa16 t13.length cc17), (8, .int .i64 t14)]) (by kernel_rfl) ?_ rfl
 clear hs; intro a hs
 refine go_end (by kernel_rfl) ?_
 refine hK11 _ _ ?_
 refine go_seq_k fun K21 hK21 => ?_
 refine go_region ?_
 refine go_pvs 0 1 [1, 5, 6, 7, 8, 29] hs (L' := [(1, .slice A1 l1.length c1), (5, .bool t4), (6, .string y10), (7, .slice Aa16 t13.length cc17), (8, .int .i64 t14), (29, .string y10)]) (by kernel_rfl) ?_ rfl
 clear hs; intro a hs
 obtain ⟨⟨t23, t24⟩, hx25, H⟩ := bind_some H
 refine go_call hs (op := (Op.call { callee := (Callee.value (Operand.func 10)), args := #[(Operand.tmp 29)], argTypes := #[9] })) (ty := 25) (dst := some 30) (g := none) (by kernel_rfl) (by kernel_rfl) (by kernel_rfl) (f := 10) (args := #[.string y10]) (by kernel_rfl) (rivetref07_PutName.calls y10 (t23, t24) _ hx25) ?_
 rintro e wd28 ⟨Aa26, cc27, rfl, hw29⟩
 refine ⟨_, rfl, ?_⟩
 replace hw := hw.call hw29
 intro a hs1
 replace hs : Slots a 82 [(1, .slice A1 l1.length c1), (5, .bool t4), (6, .string y10), (7, .slice Aa16 t13.length cc17), (8, .int .i64 t14), (30, .tuple #[.slice Aa26 t23.length cc27, .int .i64 t24])] := hs1.keep [1, 5, 6, 7, 8, 30] (by kernel_rfl)
 clear hs1
 refine go_pvs 2 7 [1, 5, 6, 7, 8, 9, 10] hs (L' := [(1, .slice A1 l1.length c1), (5, .bool t4), (6, .string y10), (7, .slice Aa16 t13.length cc17), (8, .int .i64 t14), (9, .slice Aa26 t23.length cc27), (10, .int .i64 t24)]) (by kernel_rfl) ?_ rfl
 clear hs; intro a hs
 refine go_end (by kernel_rfl) ?_
 refine hK21 _ _ ?_
 refine go_seq_k fun K31 hK31 => ?_
 refine go_region ?_
 refine go_pvs 0 1 [1, 5, 6, 7, 8, 9, 10, 34] hs (L' := [(1, .slice A1 l1.length c1), (5, .bool t4), (6, .string y10), (7, .slice Aa16 t13.length cc17), (8, .int .i64 t14), (9, .slice Aa26 t23.length cc27), (10, .int .i64 t24), (34, .slice A1 l1.length c1)]) (by kernel_rfl) ?_ rfl
 clear hs; intro a hs
 refine go_inline_k hs (op := (Op.call { callee := (Callee.value (Operand.func 12)), args := #[(Operand.tmp 34)], argTypes := #[22] })) (ty := 22) (dst := some 35) (g := none) (by kernel_rfl) (by kernel_rfl) (by kernel_rfl) (f := 12) (args := #[.slice A1 l1.length c1]) (by kernel_rfl) (fun KR32 hKR32 => ?_)
 refine go_fn Tryd.func12 rfl 8 Tryd.ntmps12 [(0, .slice A1 l1.length c1)] (by kernel_rfl) rfl ?_
 clear hs; intro a hs
 refine go_seq_k fun K33 hK33 => ?_
 refine go_region ?_
 refine go_pvs 0 1 [0] hs (L' := [(0, .slice A1 l1.length c1)]) (by kernel_rfl) ?_ rfl
 clear hs; intro a hs
 refine go_end (by kernel_rfl) ?_
 refine hK33 _ _ ?_
 refine go_seq_k fun K34 hK34 => ?_
 refine go_region ?_
 refine go_pvs 0 4 [3, 6] hs (L' := [(3, .slice A1 l1.length c1), (6, .int .i64 (mnn (l1.length : Int) 200))]) (by kernel_rfl) ?_ rfl
 clear hs; intro a hs
 obtain ⟨hp35, H⟩ := ite_only H
 obtain ⟨Aa36, cc37, hx38, hc39⟩ := c_hi (P := Tryd.prog) (ty := 22) (E := (eI .u8)) (T := 5) (t := 22) (x := (Operand.tmp 3)) (y := (Operand.tmp 6)) (k := .i64) hs (by kernel_rfl) (by kernel_rfl) (hr1.old hw) (by kernel_rfl) (by kernel_rfl) hp35.1 hp35.2
 refine go_run hs (op := (Op.slice 22 (Operand.tmp 3) none (some (Operand.tmp 6)) none)) (ty := 22) (dst := some 7) (g := none) (by kernel_rfl) (by kernel_rfl) (by kernel_rfl) hx38 [7] (L' := [(7, .slice Aa36 (l1.take (mnn (l1.length : Int) 200 : Int).toNat).length cc37)]) (by kernel_rfl) ?_
 clear hs; intro a hs
 refine go_pvs 5 6 [2] hs (L' := [(2, .slice Aa36 (l1.take (mnn (l1.length : Int) 200 : Int).toNat).length cc37)]) (by kernel_rfl) ?_ rfl
 clear hs; intro a hs
 refine go_end (by kernel_rfl) ?_
 refine hK34 _ _ ?_
 refine wp_ret ?_
 refine ret1 (t := 2) (v := .slice Aa36 (l1.take (mnn (l1.length : Int) 200 : Int).toNat).length cc37) hs (by kernel_rfl) (by kernel_rfl) ?_
 refine ⟨_, rfl, ?_⟩
 refine hKR32 _ _ ?_
 intro a hs1
 have hs : Slots a _ [(1, .slice A1 l1.length c1), (5, .bool t4), (6, .string y10), (7, .slice Aa16 t13.length cc17), (8, .int .i64 t14), (9, .slice Aa26 t23.length cc27), (10, .int .i64 t24), (35, .slice Aa36 (l1.take (mnn (l1.length : Int) 200 : Int).toNat).length cc37)] := hs1.keep [1, 5, 6, 7, 8, 9, 10, 35] (by kernel_rfl)
 clear hs1
 obtain ⟨⟨t42, t43, t44⟩, hx45, H⟩ := bind_some H
 refine go_call hs (op := (Op.call { callee := (Callee.value (Operand.func 11)), args := #[(Operand.tmp 35)], argTypes := #[22] })) (ty := 27) (dst := some 36) (g := none) (by kernel_rfl) (by kernel_rfl) (by kernel_rfl) (f := 11) (args := #[.slice Aa36 (l1.take (mnn (l1.length : Int) 200 : Int).toNat).length cc37]) (by kernel_rfl) (le_TakeName.calls Aa36 cc37 (l1.take (mnn (l1.length : Int) 200 : Int).toNat) (t42, t43, t44) _ (hc39 _ (hr1.old hw)) hx45) ?_
 rintro e wd46 ⟨rfl, hw47⟩
 refine ⟨_, rfl, ?_⟩
 replace hw := hw.call hw47
 intro a hs1
 replace hs : Slots a 82 [(1, .slice A1 l1.length c1), (5, .bool t4), (6, .string y10), (7, .slice Aa16 t13.length cc17), (8, .int .i64 t14), (9, .slice Aa26 t23.length cc27), (10, .int .i64 t24), (36, .tuple #[.string t42, .int .i64 t43, .int .i64 t44])] := hs1.keep [1, 5, 6, 7, 8, 9, 10, 36] (by kernel_rfl)
 clear hs1
 refine go_pvs 3 10 [1, 5, 6, 7, 8, 9, 10, 11, 12, 13] hs (L' := [(1, .slice A1 l1.length c1), (5, .bool t4), (6, .string y10), (7, .slice Aa16 t13.length cc17), (8, .int .i64 t14), (9, .slice Aa26 t23.length cc27), (10, .int .i64 t24), (11, .string t42), (12, .int .i64 t43), (13, .int .i64 t44)]) (by kernel_rfl) ?_ rfl
 clear hs; intro a hs
 refine go_end (by kernel_rfl) ?_
 refine hK31 _ _ ?_
 refine go_seq_k fun K48 hK48 => ?_
 refine go_region ?_
 refine go_pvs 0 1 [5, 6, 7, 8, 9, 10, 11, 12, 13, 41] hs (L' := [(5, .bool t4), (6, .string y10), (7, .slice Aa16 t13.length cc17), (8, .int .i64 t14), (9, .slice Aa26 t23.length cc27), (10, .int .i64 t24), (11, .string t42), (12, .int .i64 t43), (13, .int .i64 t44), (41, .slice A1 l1.length c1)]) (by kernel_rfl) ?_ rfl
 clear hs; intro a hs
 refine go_inline_k hs (op := (Op.call { callee := (Callee.value (Operand.func 12)), args := #[(Operand.tmp 41)], argTypes := #[22] })) (ty := 22) (dst := some 42) (g := none) (by kernel_rfl) (by kernel_rfl) (by kernel_rfl) (f := 12) (args := #[.slice A1 l1.length c1]) (by kernel_rfl) (fun KR49 hKR49 => ?_)
 refine go_fn Tryd.func12 rfl 8 Tryd.ntmps12 [(0, .slice A1 l1.length c1)] (by kernel_rfl) rfl ?_
 clear hs; intro a hs
 refine go_seq_k fun K50 hK50 => ?_
 refine go_region ?_
 refine go_pvs 0 1 [0] hs (L' := [(0, .slice A1 l1.length c1)]) (by kernel_rfl) ?_ rfl
 clear hs; intro a hs
 refine go_end (by kernel_rfl) ?_
 refine hK50 _ _ ?_
 refine go_seq_k fun K51 hK51 => ?_
 refine go_region ?_
 refine go_pvs 0 4 [3, 6] hs (L' := [(3, .slice A1 l1.length c1), (6, .int .i64 (mnn (l1.length : Int) 200))]) (by kernel_rfl) ?_ rfl
 clear hs; intro a hs
 obtain ⟨hp52, H⟩ := ite_only H
 obtain ⟨Aa53, cc54, hx55, hc56⟩ := c_hi (P := Tryd.prog) (ty := 22) (E := (eI .u8)) (T := 5) (t := 22) (x := (Operand.tmp 3)) (y := (Operand.tmp 6)) (k := .i64) hs (by kernel_rfl) (by kernel_rfl) (hr1.old hw) (by kernel_rfl) (by kernel_rfl) hp52.1 hp52.2
 refine go_run hs (op := (Op.slice 22 (Operand.tmp 3) none (some (Operand.tmp 6)) none)) (ty := 22) (dst := some 7) (g := none) (by kernel_rfl) (by kernel_rfl) (by kernel_rfl) hx55 [7] (L' := [(7, .slice Aa53 (l1.take (mnn (l1.length : Int) 200 : Int).toNat).length cc54)]) (by kernel_rfl) ?_
 clear hs; intro a hs
 refine go_pvs 5 6 [2] hs (L' := [(2, .slice Aa53 (l1.take (mnn (l1.length : Int) 200 : Int).toNat).length cc54)]) (by kernel_rfl) ?_ rfl
 clear hs; intro a hs
 refine go_end (by kernel_rfl) ?_
 refine hK51 _ _ ?_
 refine wp_ret ?_
 refine ret1 (t := 2) (v := .slice Aa53 (l1.take (mnn (l1.length : Int) 200 : Int).toNat).length cc54) hs (by kernel_rfl) (by kernel_rfl) ?_
 refine ⟨_, rfl, ?_⟩
 refine hKR49 _ _ ?_
 intro a hs1
 have hs : Slots a _ [(5, .bool t4), (6, .string y10), (7, .slice Aa16 t13.length cc17), (8, .int .i64 t14), (9, .slice Aa26 t23.length cc27), (10, .int .i64 t24), (11, .string t42), (12, .int .i64 t43), (13, .int .i64 t44), (42, .slice Aa53 (l1.take (mnn (l1.length : Int) 200 : Int).toNat).length cc54)] := hs1.keep [5, 6, 7, 8, 9, 10, 11, 12, 13, 42] (by kernel_rfl)
 clear hs1
 obtain ⟨⟨t59, t60, t61⟩, hx62, H⟩ := bind_some H
 refine go_call hs (op := (Op.call { callee := (Callee.value (Operand.func 13)), args := #[(Operand.tmp 42)], argTypes := #[22] })) (ty := 27) (dst := some 43) (g := none) (by kernel_rfl) (by kernel_rfl) (by kernel_rfl) (f := 13) (args := #[.slice Aa53 (l1.take (mnn (l1.length : Int) 200 : Int).toNat).length cc54]) (by kernel_rfl) (rivetref07_TakeName.calls Aa53 cc54 (l1.take (mnn (l1.length : Int) 200 : Int).toNat) (t59, t60, t61) _ (hc56 _ (hr1.old hw)) hx62) ?_
 rintro e wd63 ⟨rfl, hw64⟩
 refine ⟨_, rfl, ?_⟩
 replace hw := hw.call hw64
 intro a hs1
 replace hs : Slots a 82 [(5, .bool t4), (6, .string y10), (7, .slice Aa16 t13.length cc17), (8, .int .i64 t14), (9, .slice Aa26 t23.length cc27), (10, .int .i64 t24), (11, .string t42), (12, .int .i64 t43), (13, .int .i64 t44), (43, .tuple #[.string t59, .int .i64 t60, .int .i64 t61])] := hs1.keep [5, 6, 7, 8, 9, 10, 11, 12, 13, 43] (by kernel_rfl)
 clear hs1
 refine go_pvs 3 10 [5, 6, 7, 8, 9, 10, 11, 12, 13, 14, 15, 16] hs (L' := [(5, .bool t4), (6, .string y10), (7, .slice Aa16 t13.length cc17), (8, .int .i64 t14), (9, .slice Aa26 t23.length cc27), (10, .int .i64 t24), (11, .string t42), (12, .int .i64 t43), (13, .int .i64 t44), (14, .string t59), (15, .int .i64 t60), (16, .int .i64 t61)]) (by kernel_rfl) ?_ rfl
 clear hs; intro a hs
 refine go_end (by kernel_rfl) ?_
 refine hK48 _ _ ?_
 refine go_seq_k fun K65 hK65 => ?_
 have hJ1 : ∀ (v82 : Bool) (a : Act) (w : World), Slots a 82 [(4, .bool v82)] → St [] w0 w [own 5 (eI .u8) Aa26 cc27 t23, own 5 (eI .u8) Aa16 cc17 t13] → rivetlaw07_LeNames.j1 v82 = some r → K65 a w := by
  intro v82 a w hs hw H
  unfold rivetlaw07_LeNames.j1 at H
  refine hK65 _ _ ?_
  refine wp_ret ?_
  obtain rfl := Option.some.inj H
  refine ret1 (t := 4) (v := .bool v82) hs (by kernel_rfl) (by kernel_rfl) ?_
  exact ⟨rfl, hw.only 0⟩
 refine go_region ?_
 refine go_pvs 0 2 [6, 7, 8, 9, 10, 11, 12, 13, 14, 15, 16, 48] hs (L' := [(6, .string y10), (7, .slice Aa16 t13.length cc17), (8, .int .i64 t14), (9, .slice Aa26 t23.length cc27), (10, .int .i64 t24), (11, .string t42), (12, .int .i64 t43), (13, .int .i64 t44), (14, .string t59), (15, .int .i64 t60), (16, .int .i64 t61), (48, .bool t4)]) (by kernel_rfl) ?_ rfl
 clear hs; intro a hs
 cases hb66 : t4
 ·replace H := ite_f H (ff hb66)
  rw [hb66] at hs
  refine go_pvs 2 36 [4] hs (L' := [(4, .bool false)]) (by kernel_rfl) ?_ rfl
  clear hs; intro a hs
  refine go_end (by kernel_rfl) ?_
  replace hw := hw.up 1
  replace hw := hw.up 1
  replace hw := hw.only 2
  exact hJ1 false _ _ (hs.keep [4] (by kernel_rfl)) hw H
 ·replace H := ite_t H hb66
  rw [hb66] at hs
  refine go_pvs 2 3 [6, 7, 8, 9, 10, 11, 12, 13, 14, 15, 16, 48, 49] hs (L' := [(6, .string y10), (7, .slice Aa16 t13.length cc17), (8, .int .i64 t14), (9, .slice Aa26 t23.length cc27), (10, .int .i64 t24), (11, .string t42), (12, .int .i64 t43), (13, .int .i64 t44), (14, .string t59), (15, .int .i64 t60), (16, .int .i64 t61), (48, .bool true), (49, .string y10)]) (by kernel_rfl) ?_ rfl
  clear hs; intro a hs
  obtain ⟨t68, hx69, H⟩ := bind_some H
  refine go_call hs (op := (Op.call { callee := (Callee.value (Operand.func 14)), args := #[(Operand.tmp 49)], argTypes := #[9] })) (ty := 4) (dst := some 50) (g := some (1, true)) (by kernel_rfl) (by kernel_rfl) (by kernel_rfl) (f := 14) (args := #[.string y10]) (by kernel_rfl) (le_Name.calls y10 t68 _ hx69) ?_
  rintro e wd70 ⟨rfl, hw71⟩
  refine ⟨_, rfl, ?_⟩
  replace hw := hw.call hw71
  intro a hs1
  replace hs : Slots a 82 [(6, .string y10), (7, .slice Aa16 t13.length cc17), (8, .int .i64 t14), (9, .slice Aa26 t23.length cc27), (10, .int .i64 t24), (11, .string t42), (12, .int .i64 t43), (13, .int .i64 t44), (14, .string t59), (15, .int .i64 t60), (16, .int .i64 t61), (48, .bool true), (50, .bool t68)] := hs1.keep [6, 7, 8, 9, 10, 11, 12, 13, 14, 15, 16, 48, 50] (by kernel_rfl)
  clear hs1
  refine go_pvs 4 5 [7, 8, 9, 10, 11, 12, 13, 14, 15, 16, 48, 50, 51] hs (L' := [(7, .slice Aa16 t13.length cc17), (8, .int .i64 t14), (9, .slice Aa26 t23.length cc27), (10, .int .i64 t24), (11, .string t42), (12, .int .i64 t43), (13, .int .i64 t44), (14, .string t59), (15, .int .i64 t60), (16, .int .i64 t61), (48, .bool true), (50, .bool t68), (51, .string y10)]) (by kernel_rfl) ?_ rfl
  clear hs; intro a hs
  obtain ⟨t73, hx74, H⟩ := bind_some H
  refine go_call hs (op := (Op.call { callee := (Callee.value (Operand.func 15)), args := #[(Operand.tmp 51)], argTypes := #[9] })) (ty := 4) (dst := some 52) (g := some (1, true)) (by kernel_rfl) (by kernel_rfl) (by kernel_rfl) (f := 15) (args := #[.string y10]) (by kernel_rfl) (rivetref07_Name.calls y10 t73 _ hx74) ?_
  rintro e wd75 ⟨rfl, hw76⟩
  refine ⟨_, rfl, ?_⟩
  replace hw := hw.call hw76
  intro a hs1
  replace hs : Slots a 82 [(7, .slice Aa16 t13.length cc17), (8, .int .i64 t14), (9, .slice Aa26 t23.length cc27), (10, .int .i64 t24), (11, .string t42), (12, .int .i64 t43), (13, .int .i64 t44), (14, .string t59), (15, .int .i64 t60), (16, .int .i64 t61), (48, .bool true), (50, .bool t68), (52, .bool t73)] := hs1.keep [7, 8, 9, 10, 11, 12, 13, 14, 15, 16, 48, 50, 52] (by kernel_rfl)
  clear hs1
  refine go_pvs 6 9 [7, 8, 9, 10, 11, 12, 13, 14, 15, 16, 55] hs (L' := [(7, .slice Aa16 t13.length cc17), (8, .int .i64 t14), (9, .slice Aa26 t23.length cc27), (10, .int .i64 t24), (11, .string t42), (12, .int .i64 t43), (13, .int .i64 t44), (14, .string t59), (15, .int .i64 t60), (16, .int .i64 t61), (55, .bool (t68 == t73))]) (by kernel_rfl) ?_ rfl
  clear hs; intro a hs
  cases hb77 : (t68 == t73)
  ·replace H := ite_f H (ff hb77)
   rw [hb77] at hs
   refine go_pvs 9 36 [4] hs (L' := [(4, .bool false)]) (by kernel_rfl) ?_ rfl
   clear hs; intro a hs
   refine go_end (by kernel_rfl) ?_
   replace hw := hw.up 1
   replace hw := hw.up 1
   replace hw := hw.only 2
   exact hJ1 false _ _ (hs.keep [4] (by kernel_rfl)) hw H
  ·replace H := ite_t H hb77
   rw [hb77] at hs
   refine go_pvs 9 10 [8, 9, 10, 11, 12, 13, 14, 15, 16, 55, 56] hs (L' := [(8, .int .i64 t14), (9, .slice Aa26 t23.length cc27), (10, .int .i64 t24), (11, .string t42), (12, .int .i64 t43), (13, .int .i64 t44), (14, .string t59), (15, .int .i64 t60), (16, .int .i64 t61), (55, .bool true), (56, .slice Aa16 t13.length cc17)]) (by kernel_rfl) ?_ rfl
   clear hs; intro a hs
   refine go_run hs (op := (Op.convert 22 9 (Operand.tmp 56))) (ty := 9) (dst := some 57) (g := some (8, true)) (by kernel_rfl) (by kernel_rfl) (by kernel_rfl) (x_conv (e := 5) (l := t13) (Rd.of_own (hw.up 1)) (by kernel_rfl) (by kernel_rfl) (by kernel_rfl) (by kernel_rfl)) [8, 9, 10, 11, 12, 13, 14, 15, 16, 55, 57] (L' := [(8, .int .i64 t14), (9, .slice Aa26 t23.length cc27), (10, .int .i64 t24), (11, .string t42), (12, .int .i64 t43), (13, .int .i64 t44), (14, .string t59), (15, .int .i64 t60), (16, .int .i64 t61), (55, .bool true), (57, .string (strOfNums t13))]) (by kernel_rfl) ?_
   clear hs; intro a hs
   refine go_pvs 11 12 [8, 10, 11, 12, 13, 14, 15, 16, 55, 57, 58] hs (L' := [(8, .int .i64 t14), (10, .int .i64 t24), (11, .string t42), (12, .int .i64 t43), (13, .int .i64 t44), (14, .string t59), (15, .int .i64 t60), (16, .int .i64 t61), (55, .bool true), (57, .string (strOfNums t13)), (58, .slice Aa26 t23.length cc27)]) (by kernel_rfl) ?_ rfl
   clear hs; intro a hs
   refine go_run hs (op := (Op.convert 22 9 (Operand.tmp 58))) (ty := 9) (dst := some 59) (g := some (8, true)) (by kernel_rfl) (by kernel_rfl) (by kernel_rfl) (x_conv (e := 5) (l := t23) (Rd.of_own (hw.up 0)) (by kernel_rfl) (by kernel_rfl) (by kernel_rfl) (by kernel_rfl)) [8, 10, 11, 12, 13, 14, 15, 16, 55, 57, 59] (L' := [(8, .int .i64 t14), (10, .int .i64 t24), (11, .string t42), (12, .int .i64 t43), (13, .int .i64 t44), (14, .string t59), (15, .int .i64 t60), (16, .int .i64 t61), (55, .bool true), (57, .string (strOfNums t13)), (59, .string (strOfNums t23))]) (by kernel_rfl) ?_
   clear hs; intro a hs
   refine go_pvs 13 16 [8, 10, 11, 12, 13, 14, 15, 16, 62] hs (L' := [(8, .int .i64 t14), (10, .int .i64 t24), (11, .string t42), (12, .int .i64 t43), (13, .int .i64 t44), (14, .string t59), (15, .int .i64 t60), (16, .int .i64 t61), (62, .bool ((strOfNums t13).toList == (strOfNums t23).toList))]) (by kernel_rfl) ?_ rfl
   clear hs; intro a hs
   cases hb78 : ((strOfNums t13).toList == (strOfNums t23).toList)
   ·replace H := ite_f H (ff hb78)
    rw [hb78] at hs
    refine go_pvs 16 36 [4] hs (L' := [(4, .bool false)]) (by kernel_rfl) ?_ rfl
    clear hs; intro a hs
    refine go_end (by kernel_rfl) ?_
    replace hw := hw.up 1
    replace hw := hw.up 1
    replace hw := hw.only 2
    exact hJ1 false _ _ (hs.keep [4] (by kernel_rfl)) hw H
   ·replace H := ite_t H hb78
    rw [hb78] at hs
    refine go_pvs 16 21 [11, 12, 13, 14, 15, 16, 67] hs (L' := [(11, .string t42), (12, .int .i64 t43), (13, .int .i64 t44), (14, .string t59), (15, .int .i64 t60), (16, .int .i64 t61), (67, .bool (t14 == t24))]) (by kernel_rfl) ?_ rfl
    clear hs; intro a hs
    cases hb79 : (t14 == t24)
    ·replace H := ite_f H (beq_eq_false_iff_ne.1 hb79)
     rw [hb79] at hs
     refine go_pvs 21 36 [4] hs (L' := [(4, .bool false)]) (by kernel_rfl) ?_ rfl
     clear hs; intro a hs
     refine go_end (by kernel_rfl) ?_
     replace hw := hw.up 1
     replace hw := hw.up 1
     replace hw := hw.only 2
     exact hJ1 false _ _ (hs.keep [4] (by kernel_rfl)) hw H
    ·replace H := ite_t H (beq_iff_eq.1 hb79)
     rw [hb79] at hs
     refine go_pvs 21 26 [12, 13, 15, 16, 72] hs (L' := [(12, .int .i64 t43), (13, .int .i64 t44), (15, .int .i64 t60), (16, .int .i64 t61), (72, .bool (t42.toList == t59.toList))]) (by kernel_rfl) ?_ rfl
     clear hs; intro a hs
     cases hb80 : (t42.toList == t59.toList)
     ·replace H := ite_f H (ff hb80)
      rw [hb80] at hs
      refine go_pvs 26 36 [4] hs (L' := [(4, .bool false)]) (by kernel_rfl) ?_ rfl
      clear hs; intro a hs
      refine go_end (by kernel_rfl) ?_
      replace hw := hw.up 1
      replace hw := hw.up 1
      replace hw := hw.only 2
      exact hJ1 false _ _ (hs.keep [4] (by kernel_rfl)) hw H
     ·replace H := ite_t H hb80
      rw [hb80] at hs
      refine go_pvs 26 31 [13, 16, 77] hs (L' := [(13, .int .i64 t44), (16, .int .i64 t61), (77, .bool (t43 == t60))]) (by kernel_rfl) ?_ rfl
      clear hs; intro a hs
      cases hb81 : (t43 == t60)
      ·replace H := ite_f H (beq_eq_false_iff_ne.1 hb81)
       rw [hb81] at hs
       refine go_pvs 31 36 [4] hs (L' := [(4, .bool false)]) (by kernel_rfl) ?_ rfl
       clear hs; intro a hs
       refine go_end (by kernel_rfl) ?_
       replace hw := hw.up 1
       replace hw := hw.up 1
       replace hw := hw.only 2
       exact hJ1 false _ _ (hs.keep [4] (by kernel_rfl)) hw H
      ·replace H := ite_t H (beq_iff_eq.1 hb81)
       rw [hb81] at hs
       refine go_pvs 31 36 [4] hs (L' := [(4, .bool (t44 == t61))]) (by kernel_rfl) ?_ rfl
       clear hs; intro a hs
       refine go_end (by kernel_rfl) ?_
       replace hw := hw.up 1
       replace hw := hw.up 1
       replace hw := hw.only 2
       exact hJ1 (t44 == t61) _ _ (hs.keep [4] (by kernel_rfl)) hw H

end Go.Proofs.YtckefpenekolhaaDoor.T07
