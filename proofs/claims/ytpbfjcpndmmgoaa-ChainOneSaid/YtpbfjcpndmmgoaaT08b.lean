/- YtpbfjcpndmmgoaaT08: Go functions told as plain ones, each with a proof that its call comes to what is told, part 2. Condition of each: that the plain function comes to a value. -/
import Derived.Test.YtpbfjcpndmmgoaaT08a
namespace Go.Proofs.Ytpbfjcpndmmgoaa.T08
open Go Go.RowKit Go.Proofs.Ytpbfjcpndmmgoaa.E
set_option linter.unusedVariables false
set_option linter.unusedSimpArgs false

/-! rivet/rivetlaw08.ChainAll: function 5 -/
noncomputable def rivetlaw08_ChainAll.j1 (v134 : Bool) : Option Bool := some v134
noncomputable def rivetlaw08_ChainAll (l0 : List Int) (l1 : List Int) (a2 : Int) : Option Bool := ((rivetlaw08_shown).bind fun t4 => ((if 0 ≤ (mnn (l0.length : Int) 30) ∧ (mnn (l0.length : Int) 30) ≤ (l0.length : Int) then (if 0 ≤ (mnn (l1.length : Int) 30) ∧ (mnn (l1.length : Int) 30) ≤ (l1.length : Int) then ((chain_Pack (l0.take (mnn (l0.length : Int) 30 : Int).toNat) (l1.take (mnn (l1.length : Int) 30 : Int).toNat)).bind fun ⟨t28, t29, t30⟩ => ((if 0 ≤ (mnn (l0.length : Int) 30) ∧ (mnn (l0.length : Int) 30) ≤ (l0.length : Int) then (if 0 ≤ (mnn (l1.length : Int) 30) ∧ (mnn (l1.length : Int) 30) ≤ (l1.length : Int) then ((rivetref08_Pack (l0.take (mnn (l0.length : Int) 30 : Int).toNat) (l1.take (mnn (l1.length : Int) 30 : Int).toNat)).bind fun ⟨t57, t58, t59⟩ => ((if 0 ≤ (mnn (l0.length : Int) 30) ∧ (mnn (l0.length : Int) 30) ≤ (l0.length : Int) then ((chain_Unpack (l0.take (mnn (l0.length : Int) 30 : Int).toNat) a2).bind fun ⟨t77, t78, t79⟩ => ((if 0 ≤ (mnn (l0.length : Int) 30) ∧ (mnn (l0.length : Int) 30) ≤ (l0.length : Int) then ((rivetref08_Unpack (l0.take (mnn (l0.length : Int) 30 : Int).toNat) a2).bind fun ⟨t100, t101, t102⟩ => ((if t4 = true then ((rivetref05_Same t28 t57).bind fun t115 => ((if t115 = true then (if t29 = t58 then (if t30 = t59 then ((rivetref05_Same t77 t100).bind fun t123 => ((if t123 = true then ((rivetref08_Same t78 t101).bind fun t129 => ((if t129 = true then rivetlaw08_ChainAll.j1 (t79 == t102) else rivetlaw08_ChainAll.j1 false))) else rivetlaw08_ChainAll.j1 false))) else rivetlaw08_ChainAll.j1 false) else rivetlaw08_ChainAll.j1 false) else rivetlaw08_ChainAll.j1 false))) else rivetlaw08_ChainAll.j1 false))) else none))) else none))) else none) else none))) else none) else none)))
set_option maxRecDepth 100000 in
set_option maxHeartbeats 4000000 in
theorem rivetlaw08_ChainAll.calls (A0 : Option Addr) (c0 : Nat) (l0 : List Int) (A1 : Option Addr) (c1 : Nat) (l1 : List Int) (a2 : Int) (r : Bool) (w0 : World) (hr0 : Rd w0 (eI .u32) A0 c0 l0) (hr1 : Rd w0 (eI .i64) A1 c1 l1) (H : rivetlaw08_ChainAll l0 l1 a2 = some r) :
    Calls Try.prog 5 #[.slice A0 l0.length c0, .slice A1 l1.length c1, .int .i64 a2] w0 fun e w' => e = .returned (.bool r) ∧ St [] w0 w' [] := by
  have hw : St [] w0 w0 [] := St.nil w0
  unfold rivetlaw08_ChainAll at H
  refine go_fn Try.func5 rfl 86 Try.ntmps5 [(0, .slice A0 l0.length c0), (1, .slice A1 l1.length c1), (2, .int .i64 a2)] (by kernel_rfl) rfl ?_
  intro a hs
  refine go_seq_k fun K1 hK1 => ?_
  refine go_region ?_
  refine go_pvs 0 1 [0, 1, 2] hs (L' := [(0, .slice A0 l0.length c0), (1, .slice A1 l1.length c1), (2, .int .i64 a2)]) (by kernel_rfl) ?_ rfl
  clear hs; intro a hs
  refine go_end (by kernel_rfl) ?_
  refine hK1 _ _ ?_
  refine go_seq_k fun K2 hK2 => ?_
  refine go_region ?_
  obtain ⟨t4, hx5, H⟩ := bind_some H
  refine go_call hs (op := (Op.call { callee := (Callee.value (Operand.func 19)), args := #[], argTypes := #[] })) (ty := 4) (dst := some 20) (g := none) (by kernel_rfl) (by kernel_rfl) (by kernel_rfl) (f := 19) (args := #[]) (by kernel_rfl) (rivetlaw08_shown.calls t4 _ hx5) ?_
  rintro e wd6 ⟨rfl, hw7⟩
  refine ⟨_, rfl, ?_⟩
  replace hw := hw.call hw7
  intro a hs1
  replace hs : Slots a 86 [(0, .slice A0 l0.length c0), (1, .slice A1 l1.length c1), (2, .int .i64 a2), (20, .bool t4)] := hs1.keep [0, 1, 2, 20] (by kernel_rfl)
  clear hs1
  refine go_pvs 1 2 [0, 1, 2, 7] hs (L' := [(0, .slice A0 l0.length c0), (1, .slice A1 l1.length c1), (2, .int .i64 a2), (7, .bool t4)]) (by kernel_rfl) ?_ rfl
  clear hs; intro a hs
  refine go_end (by kernel_rfl) ?_
  refine hK2 _ _ ?_
  refine go_seq_k fun K8 hK8 => ?_
  refine go_region ?_
  refine go_pvs 0 1 [0, 1, 2, 7, 22] hs (L' := [(0, .slice A0 l0.length c0), (1, .slice A1 l1.length c1), (2, .int .i64 a2), (7, .bool t4), (22, .slice A0 l0.length c0)]) (by kernel_rfl) ?_ rfl
  clear hs; intro a hs
  refine go_inline_k hs (op := (Op.call { callee := (Callee.value (Operand.func 21)), args := #[(Operand.tmp 22)], argTypes := #[22] })) (ty := 22) (dst := some 23) (g := none) (by kernel_rfl) (by kernel_rfl) (by kernel_rfl) (f := 21) (args := #[.slice A0 l0.length c0]) (by kernel_rfl) (fun KR9 hKR9 => ?_)
  refine go_fn Try.func21 rfl 8 Try.ntmps21 [(0, .slice A0 l0.length c0)] (by kernel_rfl) rfl ?_
  clear hs; intro a hs
  refine go_seq_k fun K10 hK10 => ?_
  refine go_region ?_
  refine go_pvs 0 1 [0] hs (L' := [(0, .slice A0 l0.length c0)]) (by kernel_rfl) ?_ rfl
  clear hs; intro a hs
  refine go_end (by kernel_rfl) ?_
  refine hK10 _ _ ?_
  refine go_seq_k fun K11 hK11 => ?_
  refine go_region ?_
  refine go_pvs 0 4 [3, 6] hs (L' := [(3, .slice A0 l0.length c0), (6, .int .i64 (mnn (l0.length : Int) 30))]) (by kernel_rfl) ?_ rfl
  clear hs; intro a hs
  obtain ⟨hp12, H⟩ := ite_only H
  obtain ⟨A13, c14, hx15, hc16⟩ := c_hi (P := Try.prog) (L := [(3, .slice A0 l0.length c0), (6, .int .i64 (mnn (l0.length : Int) 30))]) (ty := 22) (E := (eI .u32)) (T := 23) (t := 22) (x := (Operand.tmp 3)) (y := (Operand.tmp 6)) (k := .i64) (by kernel_rfl) (by kernel_rfl) (hr0.old hw) (by kernel_rfl) (by kernel_rfl) hp12.1 hp12.2
  refine go_run hs (op := (Op.slice 22 (Operand.tmp 3) none (some (Operand.tmp 6)) none)) (ty := 22) (dst := some 7) (g := none) (by kernel_rfl) (by kernel_rfl) (by kernel_rfl) hx15 [7] (L' := [(7, .slice A13 (l0.take (mnn (l0.length : Int) 30 : Int).toNat).length c14)]) (by kernel_rfl) ?_
  clear hs; intro a hs
  refine go_pvs 5 6 [2] hs (L' := [(2, .slice A13 (l0.take (mnn (l0.length : Int) 30 : Int).toNat).length c14)]) (by kernel_rfl) ?_ rfl
  clear hs; intro a hs
  refine go_end (by kernel_rfl) ?_
  refine hK11 _ _ ?_
  refine wp_ret ?_
  refine ret1 (t := 2) (v := .slice A13 (l0.take (mnn (l0.length : Int) 30 : Int).toNat).length c14) hs (by kernel_rfl) (by kernel_rfl) ?_
  refine ⟨_, rfl, ?_⟩
  refine hKR9 _ _ ?_
  intro a hs1
  have hs : Slots a _ [(0, .slice A0 l0.length c0), (1, .slice A1 l1.length c1), (2, .int .i64 a2), (7, .bool t4), (23, .slice A13 (l0.take (mnn (l0.length : Int) 30 : Int).toNat).length c14)] := hs1.keep [0, 1, 2, 7, 23] (by kernel_rfl)
  clear hs1
  refine go_pvs 2 3 [0, 1, 2, 7, 23, 24] hs (L' := [(0, .slice A0 l0.length c0), (1, .slice A1 l1.length c1), (2, .int .i64 a2), (7, .bool t4), (23, .slice A13 (l0.take (mnn (l0.length : Int) 30 : Int).toNat).length c14), (24, .slice A1 l1.length c1)]) (by kernel_rfl) ?_ rfl
  clear hs; intro a hs
  refine go_inline_k hs (op := (Op.call { callee := (Callee.value (Operand.func 22)), args := #[(Operand.tmp 24)], argTypes := #[35] })) (ty := 35) (dst := some 25) (g := none) (by kernel_rfl) (by kernel_rfl) (by kernel_rfl) (f := 22) (args := #[.slice A1 l1.length c1]) (by kernel_rfl) (fun KR18 hKR18 => ?_)
  refine go_fn Try.func22 rfl 8 Try.ntmps22 [(0, .slice A1 l1.length c1)] (by kernel_rfl) rfl ?_
  clear hs; intro a hs
  refine go_seq_k fun K19 hK19 => ?_
  refine go_region ?_
  refine go_pvs 0 1 [0] hs (L' := [(0, .slice A1 l1.length c1)]) (by kernel_rfl) ?_ rfl
  clear hs; intro a hs
  refine go_end (by kernel_rfl) ?_
  refine hK19 _ _ ?_
  refine go_seq_k fun K20 hK20 => ?_
  refine go_region ?_
  refine go_pvs 0 4 [3, 6] hs (L' := [(3, .slice A1 l1.length c1), (6, .int .i64 (mnn (l1.length : Int) 30))]) (by kernel_rfl) ?_ rfl
  clear hs; intro a hs
  obtain ⟨hp21, H⟩ := ite_only H
  obtain ⟨A22, c23, hx24, hc25⟩ := c_hi (P := Try.prog) (L := [(3, .slice A1 l1.length c1), (6, .int .i64 (mnn (l1.length : Int) 30))]) (ty := 35) (E := (eI .i64)) (T := 3) (t := 35) (x := (Operand.tmp 3)) (y := (Operand.tmp 6)) (k := .i64) (by kernel_rfl) (by kernel_rfl) (hr1.old hw) (by kernel_rfl) (by kernel_rfl) hp21.1 hp21.2
  refine go_run hs (op := (Op.slice 35 (Operand.tmp 3) none (some (Operand.tmp 6)) none)) (ty := 35) (dst := some 7) (g := none) (by kernel_rfl) (by kernel_rfl) (by kernel_rfl) hx24 [7] (L' := [(7, .slice A22 (l1.take (mnn (l1.length : Int) 30 : Int).toNat).length c23)]) (by kernel_rfl) ?_
  clear hs; intro a hs
  refine go_pvs 5 6 [2] hs (L' := [(2, .slice A22 (l1.take (mnn (l1.length : Int) 30 : Int).toNat).length c23)]) (by kernel_rfl) ?_ rfl
  clear hs; intro a hs
  refine go_end (by kernel_rfl) ?_
  refine hK20 _ _ ?_
  refine wp_ret ?_
  refine ret1 (t := 2) (v := .slice A22 (l1.take (mnn (l1.length : Int) 30 : Int).toNat).length c23) hs (by kernel_rfl) (by kernel_rfl) ?_
  refine ⟨_, rfl, ?_⟩
  refine hKR18 _ _ ?_
  intro a hs1
  have hs : Slots a _ [(0, .slice A0 l0.length c0), (1, .slice A1 l1.length c1), (2, .int .i64 a2), (7, .bool t4), (23, .slice A13 (l0.take (mnn (l0.length : Int) 30 : Int).toNat).length c14), (25, .slice A22 (l1.take (mnn (l1.length : Int) 30 : Int).toNat).length c23)] := hs1.keep [0, 1, 2, 7, 23, 25] (by kernel_rfl)
  clear hs1
  obtain ⟨⟨t28, t29, t30⟩, hx31, H⟩ := bind_some H
  refine go_call hs (op := (Op.call { callee := (Callee.value (Operand.func 20)), args := #[(Operand.tmp 23), (Operand.tmp 25)], argTypes := #[22, 35] })) (ty := 36) (dst := some 26) (g := none) (by kernel_rfl) (by kernel_rfl) (by kernel_rfl) (f := 20) (args := #[.slice A13 (l0.take (mnn (l0.length : Int) 30 : Int).toNat).length c14, .slice A22 (l1.take (mnn (l1.length : Int) 30 : Int).toNat).length c23]) (by kernel_rfl) (chain_Pack.calls A13 c14 (l0.take (mnn (l0.length : Int) 30 : Int).toNat) A22 c23 (l1.take (mnn (l1.length : Int) 30 : Int).toNat) (t28, t29, t30) _ (hc16 _ (hr0.old hw)) (hc25 _ (hr1.old hw)) hx31) ?_
  rintro e wd34 ⟨A32, c33, rfl, hw35⟩
  refine ⟨_, rfl, ?_⟩
  replace hw := hw.call hw35
  intro a hs1
  replace hs : Slots a 86 [(0, .slice A0 l0.length c0), (1, .slice A1 l1.length c1), (2, .int .i64 a2), (7, .bool t4), (26, .tuple #[.slice A32 t28.length c33, .int .i64 t29, .int .i64 t30])] := hs1.keep [0, 1, 2, 7, 26] (by kernel_rfl)
  clear hs1
  refine go_pvs 5 12 [0, 1, 2, 7, 8, 9, 10] hs (L' := [(0, .slice A0 l0.length c0), (1, .slice A1 l1.length c1), (2, .int .i64 a2), (7, .bool t4), (8, .slice A32 t28.length c33), (9, .int .i64 t29), (10, .int .i64 t30)]) (by kernel_rfl) ?_ rfl
  clear hs; intro a hs
  refine go_end (by kernel_rfl) ?_
  refine hK8 _ _ ?_
  refine go_seq_k fun K37 hK37 => ?_
  refine go_region ?_
  refine go_pvs 0 1 [0, 1, 2, 7, 8, 9, 10, 31] hs (L' := [(0, .slice A0 l0.length c0), (1, .slice A1 l1.length c1), (2, .int .i64 a2), (7, .bool t4), (8, .slice A32 t28.length c33), (9, .int .i64 t29), (10, .int .i64 t30), (31, .slice A0 l0.length c0)]) (by kernel_rfl) ?_ rfl
  clear hs; intro a hs
  refine go_inline_k hs (op := (Op.call { callee := (Callee.value (Operand.func 21)), args := #[(Operand.tmp 31)], argTypes := #[22] })) (ty := 22) (dst := some 32) (g := none) (by kernel_rfl) (by kernel_rfl) (by kernel_rfl) (f := 21) (args := #[.slice A0 l0.length c0]) (by kernel_rfl) (fun KR38 hKR38 => ?_)
  refine go_fn Try.func21 rfl 8 Try.ntmps21 [(0, .slice A0 l0.length c0)] (by kernel_rfl) rfl ?_
  clear hs; intro a hs
  refine go_seq_k fun K39 hK39 => ?_
  refine go_region ?_
  refine go_pvs 0 1 [0] hs (L' := [(0, .slice A0 l0.length c0)]) (by kernel_rfl) ?_ rfl
  clear hs; intro a hs
  refine go_end (by kernel_rfl) ?_
  refine hK39 _ _ ?_
  refine go_seq_k fun K40 hK40 => ?_
  refine go_region ?_
  refine go_pvs 0 4 [3, 6] hs (L' := [(3, .slice A0 l0.length c0), (6, .int .i64 (mnn (l0.length : Int) 30))]) (by kernel_rfl) ?_ rfl
  clear hs; intro a hs
  obtain ⟨hp41, H⟩ := ite_only H
  obtain ⟨A42, c43, hx44, hc45⟩ := c_hi (P := Try.prog) (L := [(3, .slice A0 l0.length c0), (6, .int .i64 (mnn (l0.length : Int) 30))]) (ty := 22) (E := (eI .u32)) (T := 23) (t := 22) (x := (Operand.tmp 3)) (y := (Operand.tmp 6)) (k := .i64) (by kernel_rfl) (by kernel_rfl) (hr0.old hw) (by kernel_rfl) (by kernel_rfl) hp41.1 hp41.2
  refine go_run hs (op := (Op.slice 22 (Operand.tmp 3) none (some (Operand.tmp 6)) none)) (ty := 22) (dst := some 7) (g := none) (by kernel_rfl) (by kernel_rfl) (by kernel_rfl) hx44 [7] (L' := [(7, .slice A42 (l0.take (mnn (l0.length : Int) 30 : Int).toNat).length c43)]) (by kernel_rfl) ?_
  clear hs; intro a hs
  refine go_pvs 5 6 [2] hs (L' := [(2, .slice A42 (l0.take (mnn (l0.length : Int) 30 : Int).toNat).length c43)]) (by kernel_rfl) ?_ rfl
  clear hs; intro a hs
  refine go_end (by kernel_rfl) ?_
  refine hK40 _ _ ?_
  refine wp_ret ?_
  refine ret1 (t := 2) (v := .slice A42 (l0.take (mnn (l0.length : Int) 30 : Int).toNat).length c43) hs (by kernel_rfl) (by kernel_rfl) ?_
  refine ⟨_, rfl, ?_⟩
  refine hKR38 _ _ ?_
  intro a hs1
  have hs : Slots a _ [(0, .slice A0 l0.length c0), (1, .slice A1 l1.length c1), (2, .int .i64 a2), (7, .bool t4), (8, .slice A32 t28.length c33), (9, .int .i64 t29), (10, .int .i64 t30), (32, .slice A42 (l0.take (mnn (l0.length : Int) 30 : Int).toNat).length c43)] := hs1.keep [0, 1, 2, 7, 8, 9, 10, 32] (by kernel_rfl)
  clear hs1
  refine go_pvs 2 3 [0, 2, 7, 8, 9, 10, 32, 33] hs (L' := [(0, .slice A0 l0.length c0), (2, .int .i64 a2), (7, .bool t4), (8, .slice A32 t28.length c33), (9, .int .i64 t29), (10, .int .i64 t30), (32, .slice A42 (l0.take (mnn (l0.length : Int) 30 : Int).toNat).length c43), (33, .slice A1 l1.length c1)]) (by kernel_rfl) ?_ rfl
  clear hs; intro a hs
  refine go_inline_k hs (op := (Op.call { callee := (Callee.value (Operand.func 22)), args := #[(Operand.tmp 33)], argTypes := #[35] })) (ty := 35) (dst := some 34) (g := none) (by kernel_rfl) (by kernel_rfl) (by kernel_rfl) (f := 22) (args := #[.slice A1 l1.length c1]) (by kernel_rfl) (fun KR47 hKR47 => ?_)
  refine go_fn Try.func22 rfl 8 Try.ntmps22 [(0, .slice A1 l1.length c1)] (by kernel_rfl) rfl ?_
  clear hs; intro a hs
  refine go_seq_k fun K48 hK48 => ?_
  refine go_region ?_
  refine go_pvs 0 1 [0] hs (L' := [(0, .slice A1 l1.length c1)]) (by kernel_rfl) ?_ rfl
  clear hs; intro a hs
  refine go_end (by kernel_rfl) ?_
  refine hK48 _ _ ?_
  refine go_seq_k fun K49 hK49 => ?_
  refine go_region ?_
  refine go_pvs 0 4 [3, 6] hs (L' := [(3, .slice A1 l1.length c1), (6, .int .i64 (mnn (l1.length : Int) 30))]) (by kernel_rfl) ?_ rfl
  clear hs; intro a hs
  obtain ⟨hp50, H⟩ := ite_only H
  obtain ⟨A51, c52, hx53, hc54⟩ := c_hi (P := Try.prog) (L := [(3, .slice A1 l1.length c1), (6, .int .i64 (mnn (l1.length : Int) 30))]) (ty := 35) (E := (eI .i64)) (T := 3) (t := 35) (x := (Operand.tmp 3)) (y := (Operand.tmp 6)) (k := .i64) (by kernel_rfl) (by kernel_rfl) (hr1.old hw) (by kernel_rfl) (by kernel_rfl) hp50.1 hp50.2
  refine go_run hs (op := (Op.slice 35 (Operand.tmp 3) none (some (Operand.tmp 6)) none)) (ty := 35) (dst := some 7) (g := none) (by kernel_rfl) (by kernel_rfl) (by kernel_rfl) hx53 [7] (L' := [(7, .slice A51 (l1.take (mnn (l1.length : Int) 30 : Int).toNat).length c52)]) (by kernel_rfl) ?_
  clear hs; intro a hs
  refine go_pvs 5 6 [2] hs (L' := [(2, .slice A51 (l1.take (mnn (l1.length : Int) 30 : Int).toNat).length c52)]) (by kernel_rfl) ?_ rfl
  clear hs; intro a hs
  refine go_end (by kernel_rfl) ?_
  refine hK49 _ _ ?_
  refine wp_ret ?_
  refine ret1 (t := 2) (v := .slice A51 (l1.take (mnn (l1.length : Int) 30 : Int).toNat).length c52) hs (by kernel_rfl) (by kernel_rfl) ?_
  refine ⟨_, rfl, ?_⟩
  refine hKR47 _ _ ?_
  intro a hs1
  have hs : Slots a _ [(0, .slice A0 l0.length c0), (2, .int .i64 a2), (7, .bool t4), (8, .slice A32 t28.length c33), (9, .int .i64 t29), (10, .int .i64 t30), (32, .slice A42 (l0.take (mnn (l0.length : Int) 30 : Int).toNat).length c43), (34, .slice A51 (l1.take (mnn (l1.length : Int) 30 : Int).toNat).length c52)] := hs1.keep [0, 2, 7, 8, 9, 10, 32, 34] (by kernel_rfl)
  clear hs1
  obtain ⟨⟨t57, t58, t59⟩, hx60, H⟩ := bind_some H
  refine go_call hs (op := (Op.call { callee := (Callee.value (Operand.func 23)), args := #[(Operand.tmp 32), (Operand.tmp 34)], argTypes := #[22, 35] })) (ty := 36) (dst := some 35) (g := none) (by kernel_rfl) (by kernel_rfl) (by kernel_rfl) (f := 23) (args := #[.slice A42 (l0.take (mnn (l0.length : Int) 30 : Int).toNat).length c43, .slice A51 (l1.take (mnn (l1.length : Int) 30 : Int).toNat).length c52]) (by kernel_rfl) (rivetref08_Pack.calls A42 c43 (l0.take (mnn (l0.length : Int) 30 : Int).toNat) A51 c52 (l1.take (mnn (l1.length : Int) 30 : Int).toNat) (t57, t58, t59) _ (hc45 _ (hr0.old hw)) (hc54 _ (hr1.old hw)) hx60) ?_
  rintro e wd63 ⟨A61, c62, rfl, hw64⟩
  refine ⟨_, rfl, ?_⟩
  replace hw := hw.call hw64
  intro a hs1
  replace hs : Slots a 86 [(0, .slice A0 l0.length c0), (2, .int .i64 a2), (7, .bool t4), (8, .slice A32 t28.length c33), (9, .int .i64 t29), (10, .int .i64 t30), (35, .tuple #[.slice A61 t57.length c62, .int .i64 t58, .int .i64 t59])] := hs1.keep [0, 2, 7, 8, 9, 10, 35] (by kernel_rfl)
  clear hs1
  refine go_pvs 5 12 [0, 2, 7, 8, 9, 10, 11, 12, 13] hs (L' := [(0, .slice A0 l0.length c0), (2, .int .i64 a2), (7, .bool t4), (8, .slice A32 t28.length c33), (9, .int .i64 t29), (10, .int .i64 t30), (11, .slice A61 t57.length c62), (12, .int .i64 t58), (13, .int .i64 t59)]) (by kernel_rfl) ?_ rfl
  clear hs; intro a hs
  refine go_end (by kernel_rfl) ?_
  refine hK37 _ _ ?_
  refine go_seq_k fun K66 hK66 => ?_
  refine go_region ?_
  refine go_pvs 0 1 [0, 2, 7, 8, 9, 10, 11, 12, 13, 40] hs (L' := [(0, .slice A0 l0.length c0), (2, .int .i64 a2), (7, .bool t4), (8, .slice A32 t28.length c33), (9, .int .i64 t29), (10, .int .i64 t30), (11, .slice A61 t57.length c62), (12, .int .i64 t58), (13, .int .i64 t59), (40, .slice A0 l0.length c0)]) (by kernel_rfl) ?_ rfl
  clear hs; intro a hs
  refine go_inline_k hs (op := (Op.call { callee := (Callee.value (Operand.func 21)), args := #[(Operand.tmp 40)], argTypes := #[22] })) (ty := 22) (dst := some 41) (g := none) (by kernel_rfl) (by kernel_rfl) (by kernel_rfl) (f := 21) (args := #[.slice A0 l0.length c0]) (by kernel_rfl) (fun KR67 hKR67 => ?_)
  refine go_fn Try.func21 rfl 8 Try.ntmps21 [(0, .slice A0 l0.length c0)] (by kernel_rfl) rfl ?_
  clear hs; intro a hs
  refine go_seq_k fun K68 hK68 => ?_
  refine go_region ?_
  refine go_pvs 0 1 [0] hs (L' := [(0, .slice A0 l0.length c0)]) (by kernel_rfl) ?_ rfl
  clear hs; intro a hs
  refine go_end (by kernel_rfl) ?_
  refine hK68 _ _ ?_
  refine go_seq_k fun K69 hK69 => ?_
  refine go_region ?_
  refine go_pvs 0 4 [3, 6] hs (L' := [(3, .slice A0 l0.length c0), (6, .int .i64 (mnn (l0.length : Int) 30))]) (by kernel_rfl) ?_ rfl
  clear hs; intro a hs
  obtain ⟨hp70, H⟩ := ite_only H
  obtain ⟨A71, c72, hx73, hc74⟩ := c_hi (P := Try.prog) (L := [(3, .slice A0 l0.length c0), (6, .int .i64 (mnn (l0.length : Int) 30))]) (ty := 22) (E := (eI .u32)) (T := 23) (t := 22) (x := (Operand.tmp 3)) (y := (Operand.tmp 6)) (k := .i64) (by kernel_rfl) (by kernel_rfl) (hr0.old hw) (by kernel_rfl) (by kernel_rfl) hp70.1 hp70.2
  refine go_run hs (op := (Op.slice 22 (Operand.tmp 3) none (some (Operand.tmp 6)) none)) (ty := 22) (dst := some 7) (g := none) (by kernel_rfl) (by kernel_rfl) (by kernel_rfl) hx73 [7] (L' := [(7, .slice A71 (l0.take (mnn (l0.length : Int) 30 : Int).toNat).length c72)]) (by kernel_rfl) ?_
  clear hs; intro a hs
  refine go_pvs 5 6 [2] hs (L' := [(2, .slice A71 (l0.take (mnn (l0.length : Int) 30 : Int).toNat).length c72)]) (by kernel_rfl) ?_ rfl
  clear hs; intro a hs
  refine go_end (by kernel_rfl) ?_
  refine hK69 _ _ ?_
  refine wp_ret ?_
  refine ret1 (t := 2) (v := .slice A71 (l0.take (mnn (l0.length : Int) 30 : Int).toNat).length c72) hs (by kernel_rfl) (by kernel_rfl) ?_
  refine ⟨_, rfl, ?_⟩
  refine hKR67 _ _ ?_
  intro a hs1
  have hs : Slots a _ [(0, .slice A0 l0.length c0), (2, .int .i64 a2), (7, .bool t4), (8, .slice A32 t28.length c33), (9, .int .i64 t29), (10, .int .i64 t30), (11, .slice A61 t57.length c62), (12, .int .i64 t58), (13, .int .i64 t59), (41, .slice A71 (l0.take (mnn (l0.length : Int) 30 : Int).toNat).length c72)] := hs1.keep [0, 2, 7, 8, 9, 10, 11, 12, 13, 41] (by kernel_rfl)
  clear hs1
  refine go_pvs 2 3 [0, 2, 7, 8, 9, 10, 11, 12, 13, 41, 42] hs (L' := [(0, .slice A0 l0.length c0), (2, .int .i64 a2), (7, .bool t4), (8, .slice A32 t28.length c33), (9, .int .i64 t29), (10, .int .i64 t30), (11, .slice A61 t57.length c62), (12, .int .i64 t58), (13, .int .i64 t59), (41, .slice A71 (l0.take (mnn (l0.length : Int) 30 : Int).toNat).length c72), (42, .int .i64 a2)]) (by kernel_rfl) ?_ rfl
  clear hs; intro a hs
  obtain ⟨⟨t77, t78, t79⟩, hx80, H⟩ := bind_some H
  refine go_call hs (op := (Op.call { callee := (Callee.value (Operand.func 24)), args := #[(Operand.tmp 41), (Operand.tmp 42)], argTypes := #[22, 3] })) (ty := 39) (dst := some 43) (g := none) (by kernel_rfl) (by kernel_rfl) (by kernel_rfl) (f := 24) (args := #[.slice A71 (l0.take (mnn (l0.length : Int) 30 : Int).toNat).length c72, .int .i64 a2]) (by kernel_rfl) (chain_Unpack.calls A71 c72 (l0.take (mnn (l0.length : Int) 30 : Int).toNat) a2 (t77, t78, t79) _ (hc74 _ (hr0.old hw)) hx80) ?_
  rintro e wd85 ⟨A81, c82, A83, c84, rfl, hw86⟩
  refine ⟨_, rfl, ?_⟩
  replace hw := hw.call hw86
  intro a hs1
  replace hs : Slots a 86 [(0, .slice A0 l0.length c0), (2, .int .i64 a2), (7, .bool t4), (8, .slice A32 t28.length c33), (9, .int .i64 t29), (10, .int .i64 t30), (11, .slice A61 t57.length c62), (12, .int .i64 t58), (13, .int .i64 t59), (43, .tuple #[.slice A81 t77.length c82, .slice A83 t78.length c84, .int .i64 t79])] := hs1.keep [0, 2, 7, 8, 9, 10, 11, 12, 13, 43] (by kernel_rfl)
  clear hs1
  refine go_pvs 4 11 [0, 2, 7, 8, 9, 10, 11, 12, 13, 14, 15, 16] hs (L' := [(0, .slice A0 l0.length c0), (2, .int .i64 a2), (7, .bool t4), (8, .slice A32 t28.length c33), (9, .int .i64 t29), (10, .int .i64 t30), (11, .slice A61 t57.length c62), (12, .int .i64 t58), (13, .int .i64 t59), (14, .slice A81 t77.length c82), (15, .slice A83 t78.length c84), (16, .int .i64 t79)]) (by kernel_rfl) ?_ rfl
  clear hs; intro a hs
  refine go_end (by kernel_rfl) ?_
  refine hK66 _ _ ?_
  refine go_seq_k fun K89 hK89 => ?_
  refine go_region ?_
  refine go_pvs 0 1 [2, 7, 8, 9, 10, 11, 12, 13, 14, 15, 16, 48] hs (L' := [(2, .int .i64 a2), (7, .bool t4), (8, .slice A32 t28.length c33), (9, .int .i64 t29), (10, .int .i64 t30), (11, .slice A61 t57.length c62), (12, .int .i64 t58), (13, .int .i64 t59), (14, .slice A81 t77.length c82), (15, .slice A83 t78.length c84), (16, .int .i64 t79), (48, .slice A0 l0.length c0)]) (by kernel_rfl) ?_ rfl
  clear hs; intro a hs
  refine go_inline_k hs (op := (Op.call { callee := (Callee.value (Operand.func 21)), args := #[(Operand.tmp 48)], argTypes := #[22] })) (ty := 22) (dst := some 49) (g := none) (by kernel_rfl) (by kernel_rfl) (by kernel_rfl) (f := 21) (args := #[.slice A0 l0.length c0]) (by kernel_rfl) (fun KR90 hKR90 => ?_)
  refine go_fn Try.func21 rfl 8 Try.ntmps21 [(0, .slice A0 l0.length c0)] (by kernel_rfl) rfl ?_
  clear hs; intro a hs
  refine go_seq_k fun K91 hK91 => ?_
  refine go_region ?_
  refine go_pvs 0 1 [0] hs (L' := [(0, .slice A0 l0.length c0)]) (by kernel_rfl) ?_ rfl
  clear hs; intro a hs
  refine go_end (by kernel_rfl) ?_
  refine hK91 _ _ ?_
  refine go_seq_k fun K92 hK92 => ?_
  refine go_region ?_
  refine go_pvs 0 4 [3, 6] hs (L' := [(3, .slice A0 l0.length c0), (6, .int .i64 (mnn (l0.length : Int) 30))]) (by kernel_rfl) ?_ rfl
  clear hs; intro a hs
  obtain ⟨hp93, H⟩ := ite_only H
  obtain ⟨A94, c95, hx96, hc97⟩ := c_hi (P := Try.prog) (L := [(3, .slice A0 l0.length c0), (6, .int .i64 (mnn (l0.length : Int) 30))]) (ty := 22) (E := (eI .u32)) (T := 23) (t := 22) (x := (Operand.tmp 3)) (y := (Operand.tmp 6)) (k := .i64) (by kernel_rfl) (by kernel_rfl) (hr0.old hw) (by kernel_rfl) (by kernel_rfl) hp93.1 hp93.2
  refine go_run hs (op := (Op.slice 22 (Operand.tmp 3) none (some (Operand.tmp 6)) none)) (ty := 22) (dst := some 7) (g := none) (by kernel_rfl) (by kernel_rfl) (by kernel_rfl) hx96 [7] (L' := [(7, .slice A94 (l0.take (mnn (l0.length : Int) 30 : Int).toNat).length c95)]) (by kernel_rfl) ?_
  clear hs; intro a hs
  refine go_pvs 5 6 [2] hs (L' := [(2, .slice A94 (l0.take (mnn (l0.length : Int) 30 : Int).toNat).length c95)]) (by kernel_rfl) ?_ rfl
  clear hs; intro a hs
  refine go_end (by kernel_rfl) ?_
  refine hK92 _ _ ?_
  refine wp_ret ?_
  refine ret1 (t := 2) (v := .slice A94 (l0.take (mnn (l0.length : Int) 30 : Int).toNat).length c95) hs (by kernel_rfl) (by kernel_rfl) ?_
  refine ⟨_, rfl, ?_⟩
  refine hKR90 _ _ ?_
  intro a hs1
  have hs : Slots a _ [(2, .int .i64 a2), (7, .bool t4), (8, .slice A32 t28.length c33), (9, .int .i64 t29), (10, .int .i64 t30), (11, .slice A61 t57.length c62), (12, .int .i64 t58), (13, .int .i64 t59), (14, .slice A81 t77.length c82), (15, .slice A83 t78.length c84), (16, .int .i64 t79), (49, .slice A94 (l0.take (mnn (l0.length : Int) 30 : Int).toNat).length c95)] := hs1.keep [2, 7, 8, 9, 10, 11, 12, 13, 14, 15, 16, 49] (by kernel_rfl)
  clear hs1
  refine go_pvs 2 3 [7, 8, 9, 10, 11, 12, 13, 14, 15, 16, 49, 50] hs (L' := [(7, .bool t4), (8, .slice A32 t28.length c33), (9, .int .i64 t29), (10, .int .i64 t30), (11, .slice A61 t57.length c62), (12, .int .i64 t58), (13, .int .i64 t59), (14, .slice A81 t77.length c82), (15, .slice A83 t78.length c84), (16, .int .i64 t79), (49, .slice A94 (l0.take (mnn (l0.length : Int) 30 : Int).toNat).length c95), (50, .int .i64 a2)]) (by kernel_rfl) ?_ rfl
  clear hs; intro a hs
  obtain ⟨⟨t100, t101, t102⟩, hx103, H⟩ := bind_some H
  refine go_call hs (op := (Op.call { callee := (Callee.value (Operand.func 25)), args := #[(Operand.tmp 49), (Operand.tmp 50)], argTypes := #[22, 3] })) (ty := 39) (dst := some 51) (g := none) (by kernel_rfl) (by kernel_rfl) (by kernel_rfl) (f := 25) (args := #[.slice A94 (l0.take (mnn (l0.length : Int) 30 : Int).toNat).length c95, .int .i64 a2]) (by kernel_rfl) (rivetref08_Unpack.calls A94 c95 (l0.take (mnn (l0.length : Int) 30 : Int).toNat) a2 (t100, t101, t102) _ (hc97 _ (hr0.old hw)) hx103) ?_
  rintro e wd108 ⟨A104, c105, A106, c107, rfl, hw109⟩
  refine ⟨_, rfl, ?_⟩
  replace hw := hw.call hw109
  intro a hs1
  replace hs : Slots a 86 [(7, .bool t4), (8, .slice A32 t28.length c33), (9, .int .i64 t29), (10, .int .i64 t30), (11, .slice A61 t57.length c62), (12, .int .i64 t58), (13, .int .i64 t59), (14, .slice A81 t77.length c82), (15, .slice A83 t78.length c84), (16, .int .i64 t79), (51, .tuple #[.slice A104 t100.length c105, .slice A106 t101.length c107, .int .i64 t102])] := hs1.keep [7, 8, 9, 10, 11, 12, 13, 14, 15, 16, 51] (by kernel_rfl)
  clear hs1
  refine go_pvs 4 11 [7, 8, 9, 10, 11, 12, 13, 14, 15, 16, 17, 18, 19] hs (L' := [(7, .bool t4), (8, .slice A32 t28.length c33), (9, .int .i64 t29), (10, .int .i64 t30), (11, .slice A61 t57.length c62), (12, .int .i64 t58), (13, .int .i64 t59), (14, .slice A81 t77.length c82), (15, .slice A83 t78.length c84), (16, .int .i64 t79), (17, .slice A104 t100.length c105), (18, .slice A106 t101.length c107), (19, .int .i64 t102)]) (by kernel_rfl) ?_ rfl
  clear hs; intro a hs
  refine go_end (by kernel_rfl) ?_
  refine hK89 _ _ ?_
  refine go_seq_k fun K112 hK112 => ?_
  have hJ1 : ∀ (v134 : Bool) (a : Act) (w : World), Slots a 86 [(6, .bool v134)] → St [] w0 w [own 23 (eI .u32) A104 c105 t100, own 3 (eI .i64) A106 c107 t101, own 23 (eI .u32) A81 c82 t77, own 3 (eI .i64) A83 c84 t78, own 23 (eI .u32) A61 c62 t57, own 23 (eI .u32) A32 c33 t28] → rivetlaw08_ChainAll.j1 v134 = some r → K112 a w := by
    intro v134 a w hs hw H
    unfold rivetlaw08_ChainAll.j1 at H
    refine hK112 _ _ ?_
    refine wp_ret ?_
    obtain rfl := Option.some.inj H
    refine ret1 (t := 6) (v := .bool v134) hs (by kernel_rfl) (by kernel_rfl) ?_
    exact ⟨rfl, hw.only 0⟩
  refine go_region ?_
  refine go_pvs 0 2 [8, 9, 10, 11, 12, 13, 14, 15, 16, 17, 18, 19, 56] hs (L' := [(8, .slice A32 t28.length c33), (9, .int .i64 t29), (10, .int .i64 t30), (11, .slice A61 t57.length c62), (12, .int .i64 t58), (13, .int .i64 t59), (14, .slice A81 t77.length c82), (15, .slice A83 t78.length c84), (16, .int .i64 t79), (17, .slice A104 t100.length c105), (18, .slice A106 t101.length c107), (19, .int .i64 t102), (56, .bool t4)]) (by kernel_rfl) ?_ rfl
  clear hs; intro a hs
  cases hb113 : t4
  · replace H := ite_f H (ff hb113)
    rw [hb113] at hs
    refine go_pvs 2 32 [6] hs (L' := [(6, .bool false)]) (by kernel_rfl) ?_ rfl
    clear hs; intro a hs
    refine go_end (by kernel_rfl) ?_
    replace hw := hw.up 5
    replace hw := hw.up 5
    replace hw := hw.up 5
    replace hw := hw.up 5
    replace hw := hw.up 5
    replace hw := hw.up 5
    replace hw := hw.only 6
    exact hJ1 false _ _ (hs.keep [6] (by kernel_rfl)) hw H
  · replace H := ite_t H hb113
    rw [hb113] at hs
    refine go_pvs 2 4 [9, 10, 12, 13, 14, 15, 16, 17, 18, 19, 56, 57, 58] hs (L' := [(9, .int .i64 t29), (10, .int .i64 t30), (12, .int .i64 t58), (13, .int .i64 t59), (14, .slice A81 t77.length c82), (15, .slice A83 t78.length c84), (16, .int .i64 t79), (17, .slice A104 t100.length c105), (18, .slice A106 t101.length c107), (19, .int .i64 t102), (56, .bool true), (57, .slice A32 t28.length c33), (58, .slice A61 t57.length c62)]) (by kernel_rfl) ?_ rfl
    clear hs; intro a hs
    obtain ⟨t115, hx116, H⟩ := bind_some H
    refine go_call hs (op := (Op.call { callee := (Callee.value (Operand.func 18)), args := #[(Operand.tmp 57), (Operand.tmp 58)], argTypes := #[22, 22] })) (ty := 4) (dst := some 59) (g := some (1, true)) (by kernel_rfl) (by kernel_rfl) (by kernel_rfl) (f := 18) (args := #[.slice A32 t28.length c33, .slice A61 t57.length c62]) (by kernel_rfl) (rivetref05_Same.calls A32 c33 t28 A61 c62 t57 t115 _ (Rd.of_own (hw.up 5)) (Rd.of_own (hw.up 4)) hx116) ?_
    rintro e wd117 ⟨rfl, hw118⟩
    refine ⟨_, rfl, ?_⟩
    replace hw := hw.call hw118
    intro a hs1
    replace hs : Slots a 86 [(9, .int .i64 t29), (10, .int .i64 t30), (12, .int .i64 t58), (13, .int .i64 t59), (14, .slice A81 t77.length c82), (15, .slice A83 t78.length c84), (16, .int .i64 t79), (17, .slice A104 t100.length c105), (18, .slice A106 t101.length c107), (19, .int .i64 t102), (56, .bool true), (59, .bool t115)] := hs1.keep [9, 10, 12, 13, 14, 15, 16, 17, 18, 19, 56, 59] (by kernel_rfl)
    clear hs1
    refine go_pvs 5 7 [9, 10, 12, 13, 14, 15, 16, 17, 18, 19, 61] hs (L' := [(9, .int .i64 t29), (10, .int .i64 t30), (12, .int .i64 t58), (13, .int .i64 t59), (14, .slice A81 t77.length c82), (15, .slice A83 t78.length c84), (16, .int .i64 t79), (17, .slice A104 t100.length c105), (18, .slice A106 t101.length c107), (19, .int .i64 t102), (61, .bool t115)]) (by kernel_rfl) ?_ rfl
    clear hs; intro a hs
    cases hb119 : t115
    · replace H := ite_f H (ff hb119)
      rw [hb119] at hs
      refine go_pvs 7 32 [6] hs (L' := [(6, .bool false)]) (by kernel_rfl) ?_ rfl
      clear hs; intro a hs
      refine go_end (by kernel_rfl) ?_
      replace hw := hw.up 5
      replace hw := hw.up 5
      replace hw := hw.up 5
      replace hw := hw.up 5
      replace hw := hw.up 5
      replace hw := hw.up 5
      replace hw := hw.only 6
      exact hJ1 false _ _ (hs.keep [6] (by kernel_rfl)) hw H
    · replace H := ite_t H hb119
      rw [hb119] at hs
      refine go_pvs 7 12 [10, 13, 14, 15, 16, 17, 18, 19, 66] hs (L' := [(10, .int .i64 t30), (13, .int .i64 t59), (14, .slice A81 t77.length c82), (15, .slice A83 t78.length c84), (16, .int .i64 t79), (17, .slice A104 t100.length c105), (18, .slice A106 t101.length c107), (19, .int .i64 t102), (66, .bool (t29 == t58))]) (by kernel_rfl) ?_ rfl
      clear hs; intro a hs
      cases hb120 : (t29 == t58)
      · replace H := ite_f H (beq_eq_false_iff_ne.1 hb120)
        rw [hb120] at hs
        refine go_pvs 12 32 [6] hs (L' := [(6, .bool false)]) (by kernel_rfl) ?_ rfl
        clear hs; intro a hs
        refine go_end (by kernel_rfl) ?_
        replace hw := hw.up 5
        replace hw := hw.up 5
        replace hw := hw.up 5
        replace hw := hw.up 5
        replace hw := hw.up 5
        replace hw := hw.up 5
        replace hw := hw.only 6
        exact hJ1 false _ _ (hs.keep [6] (by kernel_rfl)) hw H
      · replace H := ite_t H (beq_iff_eq.1 hb120)
        rw [hb120] at hs
        refine go_pvs 12 17 [14, 15, 16, 17, 18, 19, 71] hs (L' := [(14, .slice A81 t77.length c82), (15, .slice A83 t78.length c84), (16, .int .i64 t79), (17, .slice A104 t100.length c105), (18, .slice A106 t101.length c107), (19, .int .i64 t102), (71, .bool (t30 == t59))]) (by kernel_rfl) ?_ rfl
        clear hs; intro a hs
        cases hb121 : (t30 == t59)
        · replace H := ite_f H (beq_eq_false_iff_ne.1 hb121)
          rw [hb121] at hs
          refine go_pvs 17 32 [6] hs (L' := [(6, .bool false)]) (by kernel_rfl) ?_ rfl
          clear hs; intro a hs
          refine go_end (by kernel_rfl) ?_
          replace hw := hw.up 5
          replace hw := hw.up 5
          replace hw := hw.up 5
          replace hw := hw.up 5
          replace hw := hw.up 5
          replace hw := hw.up 5
          replace hw := hw.only 6
          exact hJ1 false _ _ (hs.keep [6] (by kernel_rfl)) hw H
        · replace H := ite_t H (beq_iff_eq.1 hb121)
          rw [hb121] at hs
          refine go_pvs 17 19 [15, 16, 18, 19, 71, 72, 73] hs (L' := [(15, .slice A83 t78.length c84), (16, .int .i64 t79), (18, .slice A106 t101.length c107), (19, .int .i64 t102), (71, .bool true), (72, .slice A81 t77.length c82), (73, .slice A104 t100.length c105)]) (by kernel_rfl) ?_ rfl
          clear hs; intro a hs
          obtain ⟨t123, hx124, H⟩ := bind_some H
          refine go_call hs (op := (Op.call { callee := (Callee.value (Operand.func 18)), args := #[(Operand.tmp 72), (Operand.tmp 73)], argTypes := #[22, 22] })) (ty := 4) (dst := some 74) (g := some (16, true)) (by kernel_rfl) (by kernel_rfl) (by kernel_rfl) (f := 18) (args := #[.slice A81 t77.length c82, .slice A104 t100.length c105]) (by kernel_rfl) (rivetref05_Same.calls A81 c82 t77 A104 c105 t100 t123 _ (Rd.of_own (hw.up 2)) (Rd.of_own (hw.up 0)) hx124) ?_
          rintro e wd125 ⟨rfl, hw126⟩
          refine ⟨_, rfl, ?_⟩
          replace hw := hw.call hw126
          intro a hs1
          replace hs : Slots a 86 [(15, .slice A83 t78.length c84), (16, .int .i64 t79), (18, .slice A106 t101.length c107), (19, .int .i64 t102), (71, .bool true), (74, .bool t123)] := hs1.keep [15, 16, 18, 19, 71, 74] (by kernel_rfl)
          clear hs1
          refine go_pvs 20 22 [15, 16, 18, 19, 76] hs (L' := [(15, .slice A83 t78.length c84), (16, .int .i64 t79), (18, .slice A106 t101.length c107), (19, .int .i64 t102), (76, .bool t123)]) (by kernel_rfl) ?_ rfl
          clear hs; intro a hs
          cases hb127 : t123
          · replace H := ite_f H (ff hb127)
            rw [hb127] at hs
            refine go_pvs 22 32 [6] hs (L' := [(6, .bool false)]) (by kernel_rfl) ?_ rfl
            clear hs; intro a hs
            refine go_end (by kernel_rfl) ?_
            replace hw := hw.up 5
            replace hw := hw.up 5
            replace hw := hw.up 5
            replace hw := hw.up 5
            replace hw := hw.up 5
            replace hw := hw.up 5
            replace hw := hw.only 6
            exact hJ1 false _ _ (hs.keep [6] (by kernel_rfl)) hw H
          · replace H := ite_t H hb127
            rw [hb127] at hs
            refine go_pvs 22 24 [16, 19, 76, 77, 78] hs (L' := [(16, .int .i64 t79), (19, .int .i64 t102), (76, .bool true), (77, .slice A83 t78.length c84), (78, .slice A106 t101.length c107)]) (by kernel_rfl) ?_ rfl
            clear hs; intro a hs
            obtain ⟨t129, hx130, H⟩ := bind_some H
            refine go_call hs (op := (Op.call { callee := (Callee.value (Operand.func 26)), args := #[(Operand.tmp 77), (Operand.tmp 78)], argTypes := #[35, 35] })) (ty := 4) (dst := some 79) (g := some (21, true)) (by kernel_rfl) (by kernel_rfl) (by kernel_rfl) (f := 26) (args := #[.slice A83 t78.length c84, .slice A106 t101.length c107]) (by kernel_rfl) (rivetref08_Same.calls A83 c84 t78 A106 c107 t101 t129 _ (Rd.of_own (hw.up 3)) (Rd.of_own (hw.up 1)) hx130) ?_
            rintro e wd131 ⟨rfl, hw132⟩
            refine ⟨_, rfl, ?_⟩
            replace hw := hw.call hw132
            intro a hs1
            replace hs : Slots a 86 [(16, .int .i64 t79), (19, .int .i64 t102), (76, .bool true), (79, .bool t129)] := hs1.keep [16, 19, 76, 79] (by kernel_rfl)
            clear hs1
            refine go_pvs 25 27 [16, 19, 81] hs (L' := [(16, .int .i64 t79), (19, .int .i64 t102), (81, .bool t129)]) (by kernel_rfl) ?_ rfl
            clear hs; intro a hs
            cases hb133 : t129
            · replace H := ite_f H (ff hb133)
              rw [hb133] at hs
              refine go_pvs 27 32 [6] hs (L' := [(6, .bool false)]) (by kernel_rfl) ?_ rfl
              clear hs; intro a hs
              refine go_end (by kernel_rfl) ?_
              replace hw := hw.up 5
              replace hw := hw.up 5
              replace hw := hw.up 5
              replace hw := hw.up 5
              replace hw := hw.up 5
              replace hw := hw.up 5
              replace hw := hw.only 6
              exact hJ1 false _ _ (hs.keep [6] (by kernel_rfl)) hw H
            · replace H := ite_t H hb133
              rw [hb133] at hs
              refine go_pvs 27 32 [6] hs (L' := [(6, .bool (t79 == t102))]) (by kernel_rfl) ?_ rfl
              clear hs; intro a hs
              refine go_end (by kernel_rfl) ?_
              replace hw := hw.up 5
              replace hw := hw.up 5
              replace hw := hw.up 5
              replace hw := hw.up 5
              replace hw := hw.up 5
              replace hw := hw.up 5
              replace hw := hw.only 6
              exact hJ1 (t79 == t102) _ _ (hs.keep [6] (by kernel_rfl)) hw H

/-! rivet/rivetlaw08.ChainBack: function 6 -/
noncomputable def rivetlaw08_ChainBack.j5 (v108 : Int) (v166 : Int) : Option (Int × Int ⊕ (Ex Bool Unit)) := some (.inl (v166, w64 (v108 + 1)))
noncomputable def rivetlaw08_ChainBack.j4 (t59 : List Int) (v108 : Int) (t60 : Int) (v107 : Int) (l56 : List Int) (v117 : Bool) : Option (Int × Int ⊕ (Ex Bool Unit)) := (if v117 = true then (if ([] : List Int).length + t59.length ≤ 35184372088832 then (if 0 ≤ v108 ∧ v108 < ((([] : List Int) ++ t59).length : Int) then (if 0 ≤ v108 ∧ v108 < ((([] : List Int) ++ t59).length : Int) then ((chain_Unpack ((([] : List Int) ++ t59).set (v108 : Int).toNat (bor .u32 (bandn .u32 (ix (eI .u32).d (([] : List Int) ++ t59) v108) 65535) (wu32 (w64 (v108 + 1))))) t60).bind fun ⟨t141, t142, t143⟩ => ((if t143 = 10 then rivetlaw08_ChainBack.j5 v108 (w64 (v107 + 1)) else some (.inr (.ret false))))) else none) else none) else none) else (if 0 ≤ v108 ∧ v108 < (t59.length : Int) then (if 0 ≤ v108 ∧ v108 < (l56.length : Int) then (if (ix (eI .u32).d t59 v108) = (ix (eI .u32).d l56 v108) then rivetlaw08_ChainBack.j5 v108 v107 else some (.inr (.ret false))) else none) else none))
noncomputable def rivetlaw08_ChainBack.b106 (l56 : List Int) (t31 : List Int) (t59 : List Int) (t60 : Int) (v107 : Int) (v108 : Int) : Option (Int × Int ⊕ (Ex Bool Unit)) := (if v108 < (l56.length : Int) then (if v107 < (t31.length : Int) then (if 0 ≤ v107 ∧ v107 < (t31.length : Int) then rivetlaw08_ChainBack.j4 t59 v108 t60 v107 l56 ((ix (eI .i64).d t31 v107) == v108) else none) else rivetlaw08_ChainBack.j4 t59 v108 t60 v107 l56 false) else some (.inr (.done ())))
noncomputable def rivetlaw08_ChainBack.j6 : Option Bool := some true
noncomputable def rivetlaw08_ChainBack.j3 (l56 : List Int) (t31 : List Int) (t59 : List Int) (t60 : Int) : Option Bool := ((loopO (fun (σ : Int × Int) => rivetlaw08_ChainBack.b106 l56 t31 t59 t60 σ.1 σ.2) (0, 0)).bind fun e => match e with | .ret x => some x | .done e => rivetlaw08_ChainBack.j6)
noncomputable def rivetlaw08_ChainBack.j2 (l56 : List Int) (t31 : List Int) (t59 : List Int) (t60 : Int) (v99 : Bool) : Option Bool := (if v99 = true then some false else rivetlaw08_ChainBack.j3 l56 t31 t59 t60)
noncomputable def rivetlaw08_ChainBack.j1 (t31 : List Int) (t4 : Bool) (l56 : List Int) : Option Bool := ((chain_Pack l56 t31).bind fun ⟨t59, t60, t61⟩ => (((chain_Unpack t59 t60).bind fun ⟨t70, t71, t72⟩ => ((if t4 = true then (if t61 = 0 then (if t72 = 0 then (if (t59.length : Int) = (l56.length : Int) then ((rivetref05_Same t70 l56).bind fun t89 => ((if t89 = true then ((rivetref08_Same t31 t71).bind fun t95 => (rivetlaw08_ChainBack.j2 l56 t31 t59 t60 (!t95))) else rivetlaw08_ChainBack.j2 l56 t31 t59 t60 true))) else rivetlaw08_ChainBack.j2 l56 t31 t59 t60 true) else rivetlaw08_ChainBack.j2 l56 t31 t59 t60 true) else rivetlaw08_ChainBack.j2 l56 t31 t59 t60 true) else rivetlaw08_ChainBack.j2 l56 t31 t59 t60 true)))))
noncomputable def rivetlaw08_ChainBack.b40 (t31 : List Int) (l41 : List Int) (v42 : Int) : Option ((List Int) × Int ⊕ (List Int)) := (if v42 < (t31.length : Int) then (if 0 ≤ v42 ∧ v42 < (t31.length : Int) then (if 0 ≤ v42 ∧ v42 < (t31.length : Int) then (if 0 ≤ (ix (eI .i64).d t31 v42) ∧ (ix (eI .i64).d t31 v42) < (l41.length : Int) then (if 0 ≤ (ix (eI .i64).d t31 v42) ∧ (ix (eI .i64).d t31 v42) < (l41.length : Int) then some (.inl (l41.set ((ix (eI .i64).d t31 v42) : Int).toNat (band .u32 (ix (eI .u32).d l41 (ix (eI .i64).d t31 v42)) 65535), w64 (v42 + 1))) else none) else none) else none) else none) else some (.inr l41))
noncomputable def rivetlaw08_ChainBack (l0 : List Int) (l1 : List Int) : Option Bool := ((rivetlaw08_shown).bind fun t4 => ((if 0 ≤ (mnn (l0.length : Int) 30) ∧ (mnn (l0.length : Int) 30) ≤ (l0.length : Int) then (if ([] : List Int).length + (l0.take (mnn (l0.length : Int) 30 : Int).toNat).length ≤ 35184372088832 then ((rivetref08_Fit l1 ((([] : List Int) ++ (l0.take (mnn (l0.length : Int) 30 : Int).toNat)).length : Int)).bind fun t31 => (((loopO (fun (σ : (List Int) × Int) => rivetlaw08_ChainBack.b40 t31 σ.1 σ.2) (([] : List Int) ++ (l0.take (mnn (l0.length : Int) 30 : Int).toNat), 0)).bind fun e => rivetlaw08_ChainBack.j1 t31 t4 e))) else none) else none)))
set_option maxRecDepth 100000 in
set_option maxHeartbeats 4000000 in
theorem rivetlaw08_ChainBack.calls (A0 : Option Addr) (c0 : Nat) (l0 : List Int) (A1 : Option Addr) (c1 : Nat) (l1 : List Int) (r : Bool) (w0 : World) (hr0 : Rd w0 (eI .u32) A0 c0 l0) (hr1 : Rd w0 (eI .u8) A1 c1 l1) (H : rivetlaw08_ChainBack l0 l1 = some r) :
    Calls Try.prog 6 #[.slice A0 l0.length c0, .slice A1 l1.length c1] w0 fun e w' => e = .returned (.bool r) ∧ St [] w0 w' [] := by
  have hw : St [] w0 w0 [] := St.nil w0
  unfold rivetlaw08_ChainBack at H
  refine go_fn Try.func6 rfl 148 Try.ntmps6 [(0, .slice A0 l0.length c0), (1, .slice A1 l1.length c1)] (by kernel_rfl) rfl ?_
  intro a hs
  refine go_seq_k fun K1 hK1 => ?_
  refine go_region ?_
  refine go_pvs 0 1 [0, 1] hs (L' := [(0, .slice A0 l0.length c0), (1, .slice A1 l1.length c1)]) (by kernel_rfl) ?_ rfl
  clear hs; intro a hs
  refine go_end (by kernel_rfl) ?_
  refine hK1 _ _ ?_
  refine go_seq_k fun K2 hK2 => ?_
  refine go_region ?_
  obtain ⟨t4, hx5, H⟩ := bind_some H
  refine go_call hs (op := (Op.call { callee := (Callee.value (Operand.func 19)), args := #[], argTypes := #[] })) (ty := 4) (dst := some 22) (g := none) (by kernel_rfl) (by kernel_rfl) (by kernel_rfl) (f := 19) (args := #[]) (by kernel_rfl) (rivetlaw08_shown.calls t4 _ hx5) ?_
  rintro e wd6 ⟨rfl, hw7⟩
  refine ⟨_, rfl, ?_⟩
  replace hw := hw.call hw7
  intro a hs1
  replace hs : Slots a 148 [(0, .slice A0 l0.length c0), (1, .slice A1 l1.length c1), (22, .bool t4)] := hs1.keep [0, 1, 22] (by kernel_rfl)
  clear hs1
  refine go_pvs 1 2 [0, 1, 5] hs (L' := [(0, .slice A0 l0.length c0), (1, .slice A1 l1.length c1), (5, .bool t4)]) (by kernel_rfl) ?_ rfl
  clear hs; intro a hs
  refine go_end (by kernel_rfl) ?_
  refine hK2 _ _ ?_
  refine go_seq_k fun K8 hK8 => ?_
  refine go_region ?_
  obtain ⟨A9, c10, wd11, hx12, hw⟩ := n_lit0 (P := Try.prog) (L := [(0, .slice A0 l0.length c0), (1, .slice A1 l1.length c1), (5, .bool t4)]) (t := 22) (ty := 22) (T := 23) hw (eI .u32) (by kernel_rfl) (by kernel_rfl)
  refine go_run hs (op := (Op.buildSlice 22 0 #[])) (ty := 22) (dst := some 23) (g := none) (by kernel_rfl) (by kernel_rfl) (by kernel_rfl) hx12 [0, 1, 5, 23] (L' := [(0, .slice A0 l0.length c0), (1, .slice A1 l1.length c1), (5, .bool t4), (23, .slice A9 ([] : List Int).length c10)]) (by kernel_rfl) ?_
  clear hs; intro a hs
  refine go_pvs 1 2 [1, 5, 23, 24] hs (L' := [(1, .slice A1 l1.length c1), (5, .bool t4), (23, .slice A9 ([] : List Int).length c10), (24, .slice A0 l0.length c0)]) (by kernel_rfl) ?_ rfl
  clear hs; intro a hs
  refine go_inline_k hs (op := (Op.call { callee := (Callee.value (Operand.func 21)), args := #[(Operand.tmp 24)], argTypes := #[22] })) (ty := 22) (dst := some 25) (g := none) (by kernel_rfl) (by kernel_rfl) (by kernel_rfl) (f := 21) (args := #[.slice A0 l0.length c0]) (by kernel_rfl) (fun KR14 hKR14 => ?_)
  refine go_fn Try.func21 rfl 8 Try.ntmps21 [(0, .slice A0 l0.length c0)] (by kernel_rfl) rfl ?_
  clear hs; intro a hs
  refine go_seq_k fun K15 hK15 => ?_
  refine go_region ?_
  refine go_pvs 0 1 [0] hs (L' := [(0, .slice A0 l0.length c0)]) (by kernel_rfl) ?_ rfl
  clear hs; intro a hs
  refine go_end (by kernel_rfl) ?_
  refine hK15 _ _ ?_
  refine go_seq_k fun K16 hK16 => ?_
  refine go_region ?_
  refine go_pvs 0 4 [3, 6] hs (L' := [(3, .slice A0 l0.length c0), (6, .int .i64 (mnn (l0.length : Int) 30))]) (by kernel_rfl) ?_ rfl
  clear hs; intro a hs
  obtain ⟨hp17, H⟩ := ite_only H
  obtain ⟨A18, c19, hx20, hc21⟩ := c_hi (P := Try.prog) (L := [(3, .slice A0 l0.length c0), (6, .int .i64 (mnn (l0.length : Int) 30))]) (ty := 22) (E := (eI .u32)) (T := 23) (t := 22) (x := (Operand.tmp 3)) (y := (Operand.tmp 6)) (k := .i64) (by kernel_rfl) (by kernel_rfl) (hr0.old hw) (by kernel_rfl) (by kernel_rfl) hp17.1 hp17.2
  refine go_run hs (op := (Op.slice 22 (Operand.tmp 3) none (some (Operand.tmp 6)) none)) (ty := 22) (dst := some 7) (g := none) (by kernel_rfl) (by kernel_rfl) (by kernel_rfl) hx20 [7] (L' := [(7, .slice A18 (l0.take (mnn (l0.length : Int) 30 : Int).toNat).length c19)]) (by kernel_rfl) ?_
  clear hs; intro a hs
  refine go_pvs 5 6 [2] hs (L' := [(2, .slice A18 (l0.take (mnn (l0.length : Int) 30 : Int).toNat).length c19)]) (by kernel_rfl) ?_ rfl
  clear hs; intro a hs
  refine go_end (by kernel_rfl) ?_
  refine hK16 _ _ ?_
  refine wp_ret ?_
  refine ret1 (t := 2) (v := .slice A18 (l0.take (mnn (l0.length : Int) 30 : Int).toNat).length c19) hs (by kernel_rfl) (by kernel_rfl) ?_
  refine ⟨_, rfl, ?_⟩
  refine hKR14 _ _ ?_
  intro a hs1
  have hs : Slots a _ [(1, .slice A1 l1.length c1), (5, .bool t4), (23, .slice A9 ([] : List Int).length c10), (25, .slice A18 (l0.take (mnn (l0.length : Int) 30 : Int).toNat).length c19)] := hs1.keep [1, 5, 23, 25] (by kernel_rfl)
  clear hs1
  obtain ⟨hp23, H⟩ := ite_only H
  have hsrc28 : Src Try.prog (eI .u32).sz 22 (.slice A18 (l0.take (mnn (l0.length : Int) 30 : Int).toNat).length c19) (l0.take (mnn (l0.length : Int) 30 : Int).toNat).length ((l0.take (mnn (l0.length : Int) 30 : Int).toNat).flatMap (eI .u32).enc) _ := (Src.of_rd (E := (eI .u32)) (e' := 23) (by kernel_rfl) (hc21 _ (hr0.old hw)))
  obtain ⟨A24, c25, wd26, hx27, hw⟩ := x_append (P := Try.prog) (L := [(1, .slice A1 l1.length c1), (5, .bool t4), (23, .slice A9 ([] : List Int).length c10), (25, .slice A18 (l0.take (mnn (l0.length : Int) 30 : Int).toNat).length c19)]) (t := 22) (tx := 22) (ty := 22) (x := (Operand.tmp 23)) (y := (Operand.tmp 25)) (z := .int .u32 0) (bytes := 4) (l2 := l0.take (mnn (l0.length : Int) 30 : Int).toNat) hw (by kernel_rfl) (by kernel_rfl) (by kernel_rfl) (by kernel_rfl) (by kernel_rfl) hsrc28 (by omega) (by omega)
  refine go_run hs (op := (Op.call { callee := (Callee.builtin Builtin.append), args := #[(Operand.tmp 23), (Operand.tmp 25)], argTypes := #[22, 22] })) (ty := 22) (dst := some 26) (g := none) (by kernel_rfl) (by kernel_rfl) (by kernel_rfl) hx27 [1, 5, 26] (L' := [(1, .slice A1 l1.length c1), (5, .bool t4), (26, .slice A24 (([] : List Int) ++ (l0.take (mnn (l0.length : Int) 30 : Int).toNat)).length c25)]) (by kernel_rfl) ?_
  clear hs; intro a hs
  refine go_pvs 4 5 [1, 5, 6] hs (L' := [(1, .slice A1 l1.length c1), (5, .bool t4), (6, .slice A24 (([] : List Int) ++ (l0.take (mnn (l0.length : Int) 30 : Int).toNat)).length c25)]) (by kernel_rfl) ?_ rfl
  clear hs; intro a hs
  refine go_end (by kernel_rfl) ?_
  refine hK8 _ _ ?_
  refine go_seq_k fun K29 hK29 => ?_
  refine go_region ?_
  refine go_pvs 0 3 [5, 6, 27, 29] hs (L' := [(5, .bool t4), (6, .slice A24 (([] : List Int) ++ (l0.take (mnn (l0.length : Int) 30 : Int).toNat)).length c25), (27, .slice A1 l1.length c1), (29, .int .i64 ((([] : List Int) ++ (l0.take (mnn (l0.length : Int) 30 : Int).toNat)).length : Int))]) (by kernel_rfl) ?_ rfl
  clear hs; intro a hs
  obtain ⟨t31, hx32, H⟩ := bind_some H
  refine go_call hs (op := (Op.call { callee := (Callee.value (Operand.func 27)), args := #[(Operand.tmp 27), (Operand.tmp 29)], argTypes := #[43, 3] })) (ty := 35) (dst := some 30) (g := none) (by kernel_rfl) (by kernel_rfl) (by kernel_rfl) (f := 27) (args := #[.slice A1 l1.length c1, .int .i64 ((([] : List Int) ++ (l0.take (mnn (l0.length : Int) 30 : Int).toNat)).length : Int)]) (by kernel_rfl) (rivetref08_Fit.calls A1 c1 l1 ((([] : List Int) ++ (l0.take (mnn (l0.length : Int) 30 : Int).toNat)).length : Int) t31 _ (hr1.old hw) hx32) ?_
  rintro e wd35 ⟨A33, c34, rfl, hw36⟩
  refine ⟨_, rfl, ?_⟩
  replace hw := hw.call hw36
  intro a hs1
  replace hs : Slots a 148 [(5, .bool t4), (6, .slice A24 (([] : List Int) ++ (l0.take (mnn (l0.length : Int) 30 : Int).toNat)).length c25), (30, .slice A33 t31.length c34)] := hs1.keep [5, 6, 30] (by kernel_rfl)
  clear hs1
  refine go_pvs 4 5 [5, 6, 7] hs (L' := [(5, .bool t4), (6, .slice A24 (([] : List Int) ++ (l0.take (mnn (l0.length : Int) 30 : Int).toNat)).length c25), (7, .slice A33 t31.length c34)]) (by kernel_rfl) ?_ rfl
  clear hs; intro a hs
  refine go_end (by kernel_rfl) ?_
  refine hK29 _ _ ?_
  refine go_seq_k fun K38 hK38 => ?_
  refine go_seq_k fun K39 hK39 => ?_
  refine go_region ?_
  refine go_pvs 0 1 [5, 6, 7, 8] hs (L' := [(5, .bool t4), (6, .slice A24 (([] : List Int) ++ (l0.take (mnn (l0.length : Int) 30 : Int).toNat)).length c25), (7, .slice A33 t31.length c34), (8, .int .i64 0)]) (by kernel_rfl) ?_ rfl
  clear hs; intro a hs
  refine go_end (by kernel_rfl) ?_
  refine hK39 _ _ ?_
  refine wp_block ?_
  obtain ⟨e40, hl40, HX40⟩ := bind_some H
  have hJ1 : ∀ (l56 : List Int) (a : Act) (w : World), Slots a 148 [(5, .bool t4), (6, .slice A24 l56.length c25), (7, .slice A33 t31.length c34)] → St [] w0 w [own 3 (eI .i64) A33 c34 t31, own 23 (eI .u32) A24 c25 l56] → rivetlaw08_ChainBack.j1 t31 t4 l56 = some r → K38 a w := by
    intro l56 a w hs hw H
    unfold rivetlaw08_ChainBack.j1 at H
    refine hK38 _ _ ?_
    refine go_seq_k fun K57 hK57 => ?_
    refine go_region ?_
    refine go_pvs 0 2 [5, 6, 7, 52, 53] hs (L' := [(5, .bool t4), (6, .slice A24 l56.length c25), (7, .slice A33 t31.length c34), (52, .slice A24 l56.length c25), (53, .slice A33 t31.length c34)]) (by kernel_rfl) ?_ rfl
    clear hs; intro a hs
    obtain ⟨⟨t59, t60, t61⟩, hx62, H⟩ := bind_some H
    refine go_call hs (op := (Op.call { callee := (Callee.value (Operand.func 20)), args := #[(Operand.tmp 52), (Operand.tmp 53)], argTypes := #[22, 35] })) (ty := 36) (dst := some 54) (g := none) (by kernel_rfl) (by kernel_rfl) (by kernel_rfl) (f := 20) (args := #[.slice A24 l56.length c25, .slice A33 t31.length c34]) (by kernel_rfl) (chain_Pack.calls A24 c25 l56 A33 c34 t31 (t59, t60, t61) _ (Rd.of_own (hw.up 1)) (Rd.of_own (hw.up 0)) hx62) ?_
    rintro e wd65 ⟨A63, c64, rfl, hw66⟩
    refine ⟨_, rfl, ?_⟩
    replace hw := hw.call hw66
    intro a hs1
    replace hs : Slots a 148 [(5, .bool t4), (6, .slice A24 l56.length c25), (7, .slice A33 t31.length c34), (54, .tuple #[.slice A63 t59.length c64, .int .i64 t60, .int .i64 t61])] := hs1.keep [5, 6, 7, 54] (by kernel_rfl)
    clear hs1
    refine go_pvs 3 10 [5, 6, 7, 9, 10, 11] hs (L' := [(5, .bool t4), (6, .slice A24 l56.length c25), (7, .slice A33 t31.length c34), (9, .slice A63 t59.length c64), (10, .int .i64 t60), (11, .int .i64 t61)]) (by kernel_rfl) ?_ rfl
    clear hs; intro a hs
    refine go_end (by kernel_rfl) ?_
    refine hK57 _ _ ?_
    refine go_seq_k fun K68 hK68 => ?_
    refine go_region ?_
    refine go_pvs 0 2 [5, 6, 7, 9, 10, 11, 59, 60] hs (L' := [(5, .bool t4), (6, .slice A24 l56.length c25), (7, .slice A33 t31.length c34), (9, .slice A63 t59.length c64), (10, .int .i64 t60), (11, .int .i64 t61), (59, .slice A63 t59.length c64), (60, .int .i64 t60)]) (by kernel_rfl) ?_ rfl
    clear hs; intro a hs
    obtain ⟨⟨t70, t71, t72⟩, hx73, H⟩ := bind_some H
    refine go_call hs (op := (Op.call { callee := (Callee.value (Operand.func 24)), args := #[(Operand.tmp 59), (Operand.tmp 60)], argTypes := #[22, 3] })) (ty := 39) (dst := some 61) (g := none) (by kernel_rfl) (by kernel_rfl) (by kernel_rfl) (f := 24) (args := #[.slice A63 t59.length c64, .int .i64 t60]) (by kernel_rfl) (chain_Unpack.calls A63 c64 t59 t60 (t70, t71, t72) _ (Rd.of_own (hw.up 0)) hx73) ?_
    rintro e wd78 ⟨A74, c75, A76, c77, rfl, hw79⟩
    refine ⟨_, rfl, ?_⟩
    replace hw := hw.call hw79
    intro a hs1
    replace hs : Slots a 148 [(5, .bool t4), (6, .slice A24 l56.length c25), (7, .slice A33 t31.length c34), (9, .slice A63 t59.length c64), (10, .int .i64 t60), (11, .int .i64 t61), (61, .tuple #[.slice A74 t70.length c75, .slice A76 t71.length c77, .int .i64 t72])] := hs1.keep [5, 6, 7, 9, 10, 11, 61] (by kernel_rfl)
    clear hs1
    refine go_pvs 3 10 [5, 6, 7, 9, 10, 11, 12, 13, 14] hs (L' := [(5, .bool t4), (6, .slice A24 l56.length c25), (7, .slice A33 t31.length c34), (9, .slice A63 t59.length c64), (10, .int .i64 t60), (11, .int .i64 t61), (12, .slice A74 t70.length c75), (13, .slice A76 t71.length c77), (14, .int .i64 t72)]) (by kernel_rfl) ?_ rfl
    clear hs; intro a hs
    refine go_end (by kernel_rfl) ?_
    refine hK68 _ _ ?_
    refine go_seq_k fun K82 hK82 => ?_
    have hJ3 : ∀ (a : Act) (w : World), Slots a 148 [(6, .slice A24 l56.length c25), (7, .slice A33 t31.length c34), (9, .slice A63 t59.length c64), (10, .int .i64 t60)] → St [] w0 w [own 23 (eI .u32) A74 c75 t70, own 3 (eI .i64) A76 c77 t71, own 23 (eI .u32) A63 c64 t59, own 3 (eI .i64) A33 c34 t31, own 23 (eI .u32) A24 c25 l56] → rivetlaw08_ChainBack.j3 l56 t31 t59 t60 = some r → K82 a w := by
      intro a w hs hw H
      unfold rivetlaw08_ChainBack.j3 at H
      refine hK82 _ _ ?_
      refine go_seq_k fun K103 hK103 => ?_
      refine go_region ?_
      refine go_pvs 0 1 [6, 7, 9, 10, 15] hs (L' := [(6, .slice A24 l56.length c25), (7, .slice A33 t31.length c34), (9, .slice A63 t59.length c64), (10, .int .i64 t60), (15, .int .i64 0)]) (by kernel_rfl) ?_ rfl
      clear hs; intro a hs
      refine go_end (by kernel_rfl) ?_
      refine hK103 _ _ ?_
      refine go_seq_k fun K104 hK104 => ?_
      refine go_seq_k fun K105 hK105 => ?_
      refine go_region ?_
      refine go_pvs 0 1 [6, 7, 9, 10, 15, 16] hs (L' := [(6, .slice A24 l56.length c25), (7, .slice A33 t31.length c34), (9, .slice A63 t59.length c64), (10, .int .i64 t60), (15, .int .i64 0), (16, .int .i64 0)]) (by kernel_rfl) ?_ rfl
      clear hs; intro a hs
      refine go_end (by kernel_rfl) ?_
      refine hK105 _ _ ?_
      refine wp_block ?_
      obtain ⟨e106, hl106, HX106⟩ := bind_some H
      have hJ6 : ∀ (a : Act) (w : World), Slots a 148 [] → St [] w0 w [own 23 (eI .u32) A74 c75 t70, own 3 (eI .i64) A76 c77 t71, own 23 (eI .u32) A63 c64 t59, own 3 (eI .i64) A33 c34 t31, own 23 (eI .u32) A24 c25 l56] → rivetlaw08_ChainBack.j6 = some r → K104 a w := by
        intro a w hs hw H
        unfold rivetlaw08_ChainBack.j6 at H
        refine hK104 _ _ ?_
        refine go_seq_k fun K168 hK168 => ?_
        refine go_region ?_
        refine go_pvs 0 1 [4] hs (L' := [(4, .bool true)]) (by kernel_rfl) ?_ rfl
        clear hs; intro a hs
        refine go_end (by kernel_rfl) ?_
        refine hK168 _ _ ?_
        refine wp_ret ?_
        obtain rfl := Option.some.inj H
        refine ret1 (t := 4) (v := .bool true) hs (by kernel_rfl) (by kernel_rfl) ?_
        exact ⟨rfl, hw.only 0⟩
      clear H
      refine go_loop (σ := Int × Int) (fun σ a w => Slots a 148 [(6, .slice A24 l56.length c25), (7, .slice A33 t31.length c34), (9, .slice A63 t59.length c64), (10, .int .i64 t60), (15, .int .i64 σ.1), (16, .int .i64 σ.2)] ∧ St [] w0 w [own 23 (eI .u32) A74 c75 t70, own 3 (eI .i64) A76 c77 t71, own 23 (eI .u32) A63 c64 t59, own 3 (eI .i64) A33 c34 t31, own 23 (eI .u32) A24 c25 l56]) hl106 (by exact ⟨hs.keep [6, 7, 9, 10, 15, 16] (by kernel_rfl), hw⟩) ?_
      rintro ⟨v107, v108⟩ a w ⟨hs, hw⟩ o H hr106
      replace hs : Slots a 148 [(6, .slice A24 l56.length c25), (7, .slice A33 t31.length c34), (9, .slice A63 t59.length c64), (10, .int .i64 t60), (15, .int .i64 v107), (16, .int .i64 v108)] := hs
      replace hw : St [] w0 w [own 23 (eI .u32) A74 c75 t70, own 3 (eI .i64) A76 c77 t71, own 23 (eI .u32) A63 c64 t59, own 3 (eI .i64) A33 c34 t31, own 23 (eI .u32) A24 c25 l56] := hw
      replace H : rivetlaw08_ChainBack.b106 l56 t31 t59 t60 v107 v108 = some o := H
      unfold rivetlaw08_ChainBack.b106 at H
      refine go_seq_k fun K109 hK109 => ?_
      refine go_seq_k fun K110 hK110 => ?_
      refine go_region ?_
      refine go_pvs 0 4 [6, 7, 9, 10, 15, 16, 97] hs (L' := [(6, .slice A24 l56.length c25), (7, .slice A33 t31.length c34), (9, .slice A63 t59.length c64), (10, .int .i64 t60), (15, .int .i64 v107), (16, .int .i64 v108), (97, .bool (decide (v108 < (l56.length : Int))))]) (by kernel_rfl) ?_ rfl
      clear hs; intro a hs
      refine go_end (by kernel_rfl) ?_
      refine hK110 _ _ ?_
      refine go_cond hs (decide (v108 < (l56.length : Int))) (by kernel_rfl) (fun hc => ?_) (fun hc => ?_)
      · replace H := ite_t H (of_decide_eq_true hc)
        have hb111 := hc
        rw [hb111] at hs
        refine wp_skip ?_
        refine hK109 _ _ ?_
        refine go_seq_k fun K112 hK112 => ?_
        have hJ5 : ∀ (v166 : Int) (a : Act) (w : World), Slots a 148 [(6, .slice A24 l56.length c25), (7, .slice A33 t31.length c34), (9, .slice A63 t59.length c64), (10, .int .i64 t60), (15, .int .i64 v166), (16, .int .i64 v108)] → St [] w0 w [own 23 (eI .u32) A74 c75 t70, own 3 (eI .i64) A76 c77 t71, own 23 (eI .u32) A63 c64 t59, own 3 (eI .i64) A33 c34 t31, own 23 (eI .u32) A24 c25 l56] → rivetlaw08_ChainBack.j5 v108 v166 = some o → K112 a w := by
          intro v166 a w hs hw H
          unfold rivetlaw08_ChainBack.j5 at H
          refine hK112 _ _ ?_
          refine go_region ?_
          refine go_pvs 0 3 [6, 7, 9, 10, 15, 16] hs (L' := [(6, .slice A24 l56.length c25), (7, .slice A33 t31.length c34), (9, .slice A63 t59.length c64), (10, .int .i64 t60), (15, .int .i64 v166), (16, .int .i64 (w64 (v108 + 1)))]) (by kernel_rfl) ?_ rfl
          clear hs; intro a hs
          refine go_end (by kernel_rfl) ?_
          replace hw := hw.up 4
          replace hw := hw.up 4
          replace hw := hw.up 4
          replace hw := hw.up 4
          replace hw := hw.up 4
          replace hw := hw.only 5
          exact round_end (v166, w64 (v108 + 1)) (Option.some.inj H).symm ⟨hs.keep [6, 7, 9, 10, 15, 16] (by kernel_rfl), hw⟩
        refine wp_block ?_
        refine go_seq_k fun K113 hK113 => ?_
        have hJ4 : ∀ (v117 : Bool) (a : Act) (w : World), Slots a 148 [(6, .slice A24 l56.length c25), (7, .slice A33 t31.length c34), (9, .slice A63 t59.length c64), (10, .int .i64 t60), (15, .int .i64 v107), (16, .int .i64 v108), (17, .bool v117)] → St [] w0 w [own 23 (eI .u32) A74 c75 t70, own 3 (eI .i64) A76 c77 t71, own 23 (eI .u32) A63 c64 t59, own 3 (eI .i64) A33 c34 t31, own 23 (eI .u32) A24 c25 l56] → rivetlaw08_ChainBack.j4 t59 v108 t60 v107 l56 v117 = some o → K113 a w := by
          intro v117 a w hs hw H
          unfold rivetlaw08_ChainBack.j4 at H
          refine hK113 _ _ ?_
          refine go_seq_k fun K118 hK118 => ?_
          refine go_region ?_
          refine go_pvs 0 1 [6, 7, 9, 10, 15, 16, 112] hs (L' := [(6, .slice A24 l56.length c25), (7, .slice A33 t31.length c34), (9, .slice A63 t59.length c64), (10, .int .i64 t60), (15, .int .i64 v107), (16, .int .i64 v108), (112, .bool v117)]) (by kernel_rfl) ?_ rfl
          clear hs; intro a hs
          refine go_end (by kernel_rfl) ?_
          refine hK118 _ _ ?_
          refine go_cond hs v117 (by kernel_rfl) (fun hc => ?_) (fun hc => ?_)
          · replace H := ite_t H hc
            have hb119 := hc
            rw [hb119] at hs
            refine go_seq_k fun K120 hK120 => ?_
            refine go_region ?_
            refine go_pvs 0 3 [6, 7, 9, 10, 15, 16] hs (L' := [(6, .slice A24 l56.length c25), (7, .slice A33 t31.length c34), (9, .slice A63 t59.length c64), (10, .int .i64 t60), (15, .int .i64 (w64 (v107 + 1))), (16, .int .i64 v108)]) (by kernel_rfl) ?_ rfl
            clear hs; intro a hs
            refine go_end (by kernel_rfl) ?_
            refine hK120 _ _ ?_
            refine go_seq_k fun K121 hK121 => ?_
            refine go_region ?_
            obtain ⟨A122, c123, wd124, hx125, hw⟩ := n_lit0 (P := Try.prog) (L := [(6, .slice A24 l56.length c25), (7, .slice A33 t31.length c34), (9, .slice A63 t59.length c64), (10, .int .i64 t60), (15, .int .i64 (w64 (v107 + 1))), (16, .int .i64 v108)]) (t := 22) (ty := 22) (T := 23) hw (eI .u32) (by kernel_rfl) (by kernel_rfl)
            refine go_run hs (op := (Op.buildSlice 22 0 #[])) (ty := 22) (dst := some 115) (g := none) (by kernel_rfl) (by kernel_rfl) (by kernel_rfl) hx125 [6, 7, 9, 10, 15, 16, 115] (L' := [(6, .slice A24 l56.length c25), (7, .slice A33 t31.length c34), (9, .slice A63 t59.length c64), (10, .int .i64 t60), (15, .int .i64 (w64 (v107 + 1))), (16, .int .i64 v108), (115, .slice A122 ([] : List Int).length c123)]) (by kernel_rfl) ?_
            clear hs; intro a hs
            refine go_pvs 1 2 [6, 7, 9, 10, 15, 16, 115, 116] hs (L' := [(6, .slice A24 l56.length c25), (7, .slice A33 t31.length c34), (9, .slice A63 t59.length c64), (10, .int .i64 t60), (15, .int .i64 (w64 (v107 + 1))), (16, .int .i64 v108), (115, .slice A122 ([] : List Int).length c123), (116, .slice A63 t59.length c64)]) (by kernel_rfl) ?_ rfl
            clear hs; intro a hs
            obtain ⟨hp127, H⟩ := ite_only H
            have hsrc132 : Src Try.prog (eI .u32).sz 22 (.slice A63 t59.length c64) t59.length (t59.flatMap (eI .u32).enc) _ := (Src.of_rd (E := (eI .u32)) (e' := 23) (by kernel_rfl) (Rd.of_own (hw.up 3)))
            obtain ⟨A128, c129, wd130, hx131, hw⟩ := x_append (P := Try.prog) (L := [(6, .slice A24 l56.length c25), (7, .slice A33 t31.length c34), (9, .slice A63 t59.length c64), (10, .int .i64 t60), (15, .int .i64 (w64 (v107 + 1))), (16, .int .i64 v108), (115, .slice A122 ([] : List Int).length c123), (116, .slice A63 t59.length c64)]) (t := 22) (tx := 22) (ty := 22) (x := (Operand.tmp 115)) (y := (Operand.tmp 116)) (z := .int .u32 0) (bytes := 4) (l2 := t59) hw (by kernel_rfl) (by kernel_rfl) (by kernel_rfl) (by kernel_rfl) (by kernel_rfl) hsrc132 (by omega) (by omega)
            refine go_run hs (op := (Op.call { callee := (Callee.builtin Builtin.append), args := #[(Operand.tmp 115), (Operand.tmp 116)], argTypes := #[22, 22] })) (ty := 22) (dst := some 117) (g := none) (by kernel_rfl) (by kernel_rfl) (by kernel_rfl) hx131 [6, 7, 9, 10, 15, 16, 117] (L' := [(6, .slice A24 l56.length c25), (7, .slice A33 t31.length c34), (9, .slice A63 t59.length c64), (10, .int .i64 t60), (15, .int .i64 (w64 (v107 + 1))), (16, .int .i64 v108), (117, .slice A128 (([] : List Int) ++ t59).length c129)]) (by kernel_rfl) ?_
            clear hs; intro a hs
            refine go_pvs 3 4 [6, 7, 9, 10, 15, 16, 18] hs (L' := [(6, .slice A24 l56.length c25), (7, .slice A33 t31.length c34), (9, .slice A63 t59.length c64), (10, .int .i64 t60), (15, .int .i64 (w64 (v107 + 1))), (16, .int .i64 v108), (18, .slice A128 (([] : List Int) ++ t59).length c129)]) (by kernel_rfl) ?_ rfl
            clear hs; intro a hs
            refine go_end (by kernel_rfl) ?_
            refine hK121 _ _ ?_
            refine go_seq_k fun K133 hK133 => ?_
            refine go_region ?_
            refine go_pvs 0 4 [6, 7, 9, 10, 15, 16, 18, 118, 119, 120, 121] hs (L' := [(6, .slice A24 l56.length c25), (7, .slice A33 t31.length c34), (9, .slice A63 t59.length c64), (10, .int .i64 t60), (15, .int .i64 (w64 (v107 + 1))), (16, .int .i64 v108), (18, .slice A128 (([] : List Int) ++ t59).length c129), (118, .slice A128 (([] : List Int) ++ t59).length c129), (119, .int .i64 v108), (120, .slice A128 (([] : List Int) ++ t59).length c129), (121, .int .i64 v108)]) (by kernel_rfl) ?_ rfl
            clear hs; intro a hs
            obtain ⟨hp134, H⟩ := ite_only H
            obtain ⟨ad135, rfl⟩ := (Rd.of_own (hw.up 0)).some hp134.1 hp134.2
            refine go_run hs (op := (Op.indexAddr 22 (Operand.tmp 120) (Operand.tmp 121))) (ty := 0) (dst := some 122) (g := none) (by kernel_rfl) (by kernel_rfl) (by kernel_rfl) (x_idx (T := 23) (sz := 1) (a := ad135) (n := (([] : List Int) ++ t59).length) (cap := c129) (k := .i64) (i := v108) (by kernel_rfl) (by kernel_rfl) (by kernel_rfl) (by kernel_rfl) hp134.1 hp134.2) [6, 7, 9, 10, 15, 16, 18, 118, 119, 122] (L' := [(6, .slice A24 l56.length c25), (7, .slice A33 t31.length c34), (9, .slice A63 t59.length c64), (10, .int .i64 t60), (15, .int .i64 (w64 (v107 + 1))), (16, .int .i64 v108), (18, .slice (some ad135) (([] : List Int) ++ t59).length c129), (118, .slice (some ad135) (([] : List Int) ++ t59).length c129), (119, .int .i64 v108), (122, .pointer (some (ad135.add (v108.toNat * 1))))]) (by kernel_rfl) ?_
            clear hs; intro a hs
            refine go_run hs (op := (Op.load 23 (Operand.tmp 122))) (ty := 23) (dst := some 123) (g := none) (by kernel_rfl) (by kernel_rfl) (by kernel_rfl) (x_ld (E := (eI .u32)) (off := 0) (p := ad135.add (v108.toNat * 1)) (v := .int .u32 (ix (eI .u32).d (([] : List Int) ++ t59) v108)) (Rd.of_own (hw.up 0)) hp134.1 hp134.2 (by kernel_rfl) rfl (by kernel_rfl) (by kernel_rfl)) [6, 7, 9, 10, 15, 16, 18, 118, 119, 123] (L' := [(6, .slice A24 l56.length c25), (7, .slice A33 t31.length c34), (9, .slice A63 t59.length c64), (10, .int .i64 t60), (15, .int .i64 (w64 (v107 + 1))), (16, .int .i64 v108), (18, .slice (some ad135) (([] : List Int) ++ t59).length c129), (118, .slice (some ad135) (([] : List Int) ++ t59).length c129), (119, .int .i64 v108), (123, .int .u32 (ix (eI .u32).d (([] : List Int) ++ t59) v108))]) (by kernel_rfl) ?_
            clear hs; intro a hs
            refine go_pvs 6 11 [6, 7, 9, 10, 15, 16, 18, 118, 119, 128] hs (L' := [(6, .slice A24 l56.length c25), (7, .slice A33 t31.length c34), (9, .slice A63 t59.length c64), (10, .int .i64 t60), (15, .int .i64 (w64 (v107 + 1))), (16, .int .i64 v108), (18, .slice (some ad135) (([] : List Int) ++ t59).length c129), (118, .slice (some ad135) (([] : List Int) ++ t59).length c129), (119, .int .i64 v108), (128, .int .u32 (bor .u32 (bandn .u32 (ix (eI .u32).d (([] : List Int) ++ t59) v108) 65535) (wu32 (w64 (v108 + 1)))))]) (by kernel_rfl) ?_ rfl
            clear hs; intro a hs
            obtain ⟨hp136, H⟩ := ite_only H
            refine go_run hs (op := (Op.indexAddr 22 (Operand.tmp 118) (Operand.tmp 119))) (ty := 0) (dst := some 129) (g := none) (by kernel_rfl) (by kernel_rfl) (by kernel_rfl) (x_idx (T := 23) (sz := 1) (a := ad135) (n := (([] : List Int) ++ t59).length) (cap := c129) (k := .i64) (i := v108) (by kernel_rfl) (by kernel_rfl) (by kernel_rfl) (by kernel_rfl) hp136.1 hp136.2) [6, 7, 9, 10, 15, 16, 18, 128, 129] (L' := [(6, .slice A24 l56.length c25), (7, .slice A33 t31.length c34), (9, .slice A63 t59.length c64), (10, .int .i64 t60), (15, .int .i64 (w64 (v107 + 1))), (16, .int .i64 v108), (18, .slice (some ad135) (([] : List Int) ++ t59).length c129), (128, .int .u32 (bor .u32 (bandn .u32 (ix (eI .u32).d (([] : List Int) ++ t59) v108) 65535) (wu32 (w64 (v108 + 1))))), (129, .pointer (some (ad135.add (v108.toNat * 1))))]) (by kernel_rfl) ?_
            clear hs; intro a hs
            obtain ⟨wd137, hx138, hw⟩ := x_put (P := Try.prog) (L := [(6, .slice A24 l56.length c25), (7, .slice A33 t31.length c34), (9, .slice A63 t59.length c64), (10, .int .i64 t60), (15, .int .i64 (w64 (v107 + 1))), (16, .int .i64 v108), (18, .slice (some ad135) (([] : List Int) ++ t59).length c129), (128, .int .u32 (bor .u32 (bandn .u32 (ix (eI .u32).d (([] : List Int) ++ t59) v108) 65535) (wu32 (w64 (v108 + 1))))), (129, .pointer (some (ad135.add (v108.toNat * 1))))]) (ty := 0) (t := 23) (x := (Operand.tmp 129)) (y := (Operand.tmp 128)) (off := 0) (p := ad135.add (v108.toNat * 1)) (v := .int .u32 (bor .u32 (bandn .u32 (ix (eI .u32).d (([] : List Int) ++ t59) v108) 65535) (wu32 (w64 (v108 + 1))))) (vs := [.int .u32 (bor .u32 (bandn .u32 (ix (eI .u32).d (([] : List Int) ++ t59) v108) 65535) (wu32 (w64 (v108 + 1))))]) (i := v108) (e' := bor .u32 (bandn .u32 (ix (eI .u32).d (([] : List Int) ++ t59) v108) 65535) (wu32 (w64 (v108 + 1)))) hw rfl hp136.1 hp136.2 (by kernel_rfl) rfl (by kernel_rfl) rfl (by kernel_rfl) (Nat.le_of_ble_eq_true rfl) (by simp [Value.oneCell']) (by kernel_rfl)
            refine go_unit hs (op := (Op.store 23 (Operand.tmp 129) (Operand.tmp 128))) (ty := 0) (dst := none) (g := none) (by kernel_rfl) (by kernel_rfl) (by kernel_rfl) hx138 [6, 7, 9, 10, 15, 16, 18] (L' := [(6, .slice A24 l56.length c25), (7, .slice A33 t31.length c34), (9, .slice A63 t59.length c64), (10, .int .i64 t60), (15, .int .i64 (w64 (v107 + 1))), (16, .int .i64 v108), (18, .slice (some ad135) (([] : List Int) ++ t59).length c129)]) (by kernel_rfl) ?_
            clear hs; intro a hs
            replace hs : Slots a 148 [(6, .slice A24 l56.length c25), (7, .slice A33 t31.length c34), (9, .slice A63 t59.length c64), (10, .int .i64 t60), (15, .int .i64 (w64 (v107 + 1))), (16, .int .i64 v108), (18, .slice (some ad135) ((([] : List Int) ++ t59).set (v108 : Int).toNat (bor .u32 (bandn .u32 (ix (eI .u32).d (([] : List Int) ++ t59) v108) 65535) (wu32 (w64 (v108 + 1))))).length c129)] := by rw [List.length_set]; exact hs
            refine go_end (by kernel_rfl) ?_
            refine hK133 _ _ ?_
            refine go_seq_k fun K139 hK139 => ?_
            refine go_region ?_
            refine go_pvs 0 2 [6, 7, 9, 10, 15, 16, 131, 132] hs (L' := [(6, .slice A24 l56.length c25), (7, .slice A33 t31.length c34), (9, .slice A63 t59.length c64), (10, .int .i64 t60), (15, .int .i64 (w64 (v107 + 1))), (16, .int .i64 v108), (131, .slice (some ad135) ((([] : List Int) ++ t59).set (v108 : Int).toNat (bor .u32 (bandn .u32 (ix (eI .u32).d (([] : List Int) ++ t59) v108) 65535) (wu32 (w64 (v108 + 1))))).length c129), (132, .int .i64 t60)]) (by kernel_rfl) ?_ rfl
            clear hs; intro a hs
            obtain ⟨⟨t141, t142, t143⟩, hx144, H⟩ := bind_some H
            refine go_call hs (op := (Op.call { callee := (Callee.value (Operand.func 24)), args := #[(Operand.tmp 131), (Operand.tmp 132)], argTypes := #[22, 3] })) (ty := 39) (dst := some 133) (g := none) (by kernel_rfl) (by kernel_rfl) (by kernel_rfl) (f := 24) (args := #[.slice (some ad135) ((([] : List Int) ++ t59).set (v108 : Int).toNat (bor .u32 (bandn .u32 (ix (eI .u32).d (([] : List Int) ++ t59) v108) 65535) (wu32 (w64 (v108 + 1))))).length c129, .int .i64 t60]) (by kernel_rfl) (chain_Unpack.calls (some ad135) c129 ((([] : List Int) ++ t59).set (v108 : Int).toNat (bor .u32 (bandn .u32 (ix (eI .u32).d (([] : List Int) ++ t59) v108) 65535) (wu32 (w64 (v108 + 1))))) t60 (t141, t142, t143) _ (Rd.of_own (hw.up 0)) hx144) ?_
            rintro e wd149 ⟨A145, c146, A147, c148, rfl, hw150⟩
            refine ⟨_, rfl, ?_⟩
            replace hw := hw.call hw150
            intro a hs1
            replace hs : Slots a 148 [(6, .slice A24 l56.length c25), (7, .slice A33 t31.length c34), (9, .slice A63 t59.length c64), (10, .int .i64 t60), (15, .int .i64 (w64 (v107 + 1))), (16, .int .i64 v108), (133, .tuple #[.slice A145 t141.length c146, .slice A147 t142.length c148, .int .i64 t143])] := hs1.keep [6, 7, 9, 10, 15, 16, 133] (by kernel_rfl)
            clear hs1
            refine go_pvs 3 10 [6, 7, 9, 10, 15, 16, 21] hs (L' := [(6, .slice A24 l56.length c25), (7, .slice A33 t31.length c34), (9, .slice A63 t59.length c64), (10, .int .i64 t60), (15, .int .i64 (w64 (v107 + 1))), (16, .int .i64 v108), (21, .int .i64 t143)]) (by kernel_rfl) ?_ rfl
            clear hs; intro a hs
            refine go_end (by kernel_rfl) ?_
            refine hK139 _ _ ?_
            refine go_seq_k fun K153 hK153 => ?_
            refine go_region ?_
            refine go_pvs 0 2 [6, 7, 9, 10, 15, 16, 138] hs (L' := [(6, .slice A24 l56.length c25), (7, .slice A33 t31.length c34), (9, .slice A63 t59.length c64), (10, .int .i64 t60), (15, .int .i64 (w64 (v107 + 1))), (16, .int .i64 v108), (138, .bool (t143 != 10))]) (by kernel_rfl) ?_ rfl
            clear hs; intro a hs
            refine go_end (by kernel_rfl) ?_
            refine hK153 _ _ ?_
            refine go_cond hs (t143 != 10) (by kernel_rfl) (fun hc => ?_) (fun hc => ?_)
            · replace H := ite_f H (bne_iff_ne.1 hc)
              have hb154 := hc
              rw [hb154] at hs
              refine go_seq_k fun K155 hK155 => ?_
              refine go_region ?_
              refine go_pvs 0 1 [4] hs (L' := [(4, .bool false)]) (by kernel_rfl) ?_ rfl
              clear hs; intro a hs
              refine go_end (by kernel_rfl) ?_
              refine hK155 _ _ ?_
              refine wp_ret ?_
              refine ib_ret ?_
              refine th_ret ?_
              refine th_ret ?_
              refine ib_ret ?_
              refine th_ret ?_
              rw [← hr106 _ (Option.some.inj H).symm] at HX106
              replace H : some false = some r := HX106
              obtain rfl := Option.some.inj H
              refine ret1 (t := 4) (v := .bool false) hs (by kernel_rfl) (by kernel_rfl) ?_
              exact ⟨rfl, hw.only 0⟩
            · replace H := ite_t H (bne_eq_false_iff_eq.1 hc)
              have hb156 := hc
              rw [hb156] at hs
              refine wp_skip ?_
              refine ib_norm ?_
              replace hw := hw.up 7
              replace hw := hw.up 7
              replace hw := hw.up 7
              replace hw := hw.up 7
              replace hw := hw.up 7
              replace hw := hw.only 5
              exact hJ5 (w64 (v107 + 1)) _ _ (hs.keep [6, 7, 9, 10, 15, 16] (by kernel_rfl)) hw H
          · replace H := ite_f H (ff hc)
            have hb157 := hc
            rw [hb157] at hs
            refine go_seq_k fun K158 hK158 => ?_
            refine q_region (by kernel_rfl) (by kernel_rfl) ?_
            refine q_pvs 0 2 [6, 7, 9, 10, 15, 16, 139, 140] hs (L' := [(6, .slice A24 l56.length c25), (7, .slice A33 t31.length c34), (9, .slice A63 t59.length c64), (10, .int .i64 t60), (15, .int .i64 v107), (16, .int .i64 v108), (139, .slice A63 t59.length c64), (140, .int .i64 v108)]) (by kernel_rfl) ?_ rfl
            clear hs; intro a hs
            obtain ⟨hp159, H⟩ := ite_only H
            obtain ⟨ad160, rfl⟩ := (Rd.of_own (hw.up 2)).some hp159.1 hp159.2
            refine q_run hs (op := (Op.indexAddr 22 (Operand.tmp 139) (Operand.tmp 140))) (ty := 0) (dst := some 141) (g := none) (by kernel_rfl) (by kernel_rfl) (by kernel_rfl) (fun wx hbx => (x_idx (T := 23) (sz := 1) (a := ad160) (n := t59.length) (cap := c64) (k := .i64) (i := v108) (by kernel_rfl) (by kernel_rfl) (by kernel_rfl) (by kernel_rfl) hp159.1 hp159.2)) [6, 7, 9, 10, 15, 16, 141] (L' := [(6, .slice A24 l56.length c25), (7, .slice A33 t31.length c34), (9, .slice (some ad160) t59.length c64), (10, .int .i64 t60), (15, .int .i64 v107), (16, .int .i64 v108), (141, .pointer (some (ad160.add (v108.toNat * 1))))]) (by kernel_rfl) ?_
            clear hs; intro a hs
            refine q_run hs (op := (Op.load 23 (Operand.tmp 141))) (ty := 23) (dst := some 142) (g := none) (by kernel_rfl) (by kernel_rfl) (by kernel_rfl) (fun wx hbx => (x_ld (E := (eI .u32)) (off := 0) (p := ad160.add (v108.toNat * 1)) (v := .int .u32 (ix (eI .u32).d t59 v108)) ((Rd.of_own (hw.up 2)).below hbx) hp159.1 hp159.2 (by kernel_rfl) rfl (by kernel_rfl) (by kernel_rfl))) [6, 7, 9, 10, 15, 16, 142] (L' := [(6, .slice A24 l56.length c25), (7, .slice A33 t31.length c34), (9, .slice (some ad160) t59.length c64), (10, .int .i64 t60), (15, .int .i64 v107), (16, .int .i64 v108), (142, .int .u32 (ix (eI .u32).d t59 v108))]) (by kernel_rfl) ?_
            clear hs; intro a hs
            refine q_pvs 4 6 [6, 7, 9, 10, 15, 16, 142, 143, 144] hs (L' := [(6, .slice A24 l56.length c25), (7, .slice A33 t31.length c34), (9, .slice (some ad160) t59.length c64), (10, .int .i64 t60), (15, .int .i64 v107), (16, .int .i64 v108), (142, .int .u32 (ix (eI .u32).d t59 v108)), (143, .slice A24 l56.length c25), (144, .int .i64 v108)]) (by kernel_rfl) ?_ rfl
            clear hs; intro a hs
            obtain ⟨hp161, H⟩ := ite_only H
            obtain ⟨ad162, rfl⟩ := (Rd.of_own (hw.up 4)).some hp161.1 hp161.2
            refine q_run hs (op := (Op.indexAddr 22 (Operand.tmp 143) (Operand.tmp 144))) (ty := 0) (dst := some 145) (g := none) (by kernel_rfl) (by kernel_rfl) (by kernel_rfl) (fun wx hbx => (x_idx (T := 23) (sz := 1) (a := ad162) (n := l56.length) (cap := c25) (k := .i64) (i := v108) (by kernel_rfl) (by kernel_rfl) (by kernel_rfl) (by kernel_rfl) hp161.1 hp161.2)) [6, 7, 9, 10, 15, 16, 142, 145] (L' := [(6, .slice (some ad162) l56.length c25), (7, .slice A33 t31.length c34), (9, .slice (some ad160) t59.length c64), (10, .int .i64 t60), (15, .int .i64 v107), (16, .int .i64 v108), (142, .int .u32 (ix (eI .u32).d t59 v108)), (145, .pointer (some (ad162.add (v108.toNat * 1))))]) (by kernel_rfl) ?_
            clear hs; intro a hs
            refine q_run hs (op := (Op.load 23 (Operand.tmp 145))) (ty := 23) (dst := some 146) (g := none) (by kernel_rfl) (by kernel_rfl) (by kernel_rfl) (fun wx hbx => (x_ld (E := (eI .u32)) (off := 0) (p := ad162.add (v108.toNat * 1)) (v := .int .u32 (ix (eI .u32).d l56 v108)) ((Rd.of_own (hw.up 4)).below hbx) hp161.1 hp161.2 (by kernel_rfl) rfl (by kernel_rfl) (by kernel_rfl))) [6, 7, 9, 10, 15, 16, 142, 146] (L' := [(6, .slice (some ad162) l56.length c25), (7, .slice A33 t31.length c34), (9, .slice (some ad160) t59.length c64), (10, .int .i64 t60), (15, .int .i64 v107), (16, .int .i64 v108), (142, .int .u32 (ix (eI .u32).d t59 v108)), (146, .int .u32 (ix (eI .u32).d l56 v108))]) (by kernel_rfl) ?_
            clear hs; intro a hs
            refine q_pvs 8 9 [6, 7, 9, 10, 15, 16, 147] hs (L' := [(6, .slice (some ad162) l56.length c25), (7, .slice A33 t31.length c34), (9, .slice (some ad160) t59.length c64), (10, .int .i64 t60), (15, .int .i64 v107), (16, .int .i64 v108), (147, .bool ((ix (eI .u32).d t59 v108) != (ix (eI .u32).d l56 v108)))]) (by kernel_rfl) ?_ rfl
            clear hs; intro a hs
            refine q_end (by kernel_rfl) ?_
            intro wq hbq
            replace hw := hw.behind hbq
            refine hK158 _ _ ?_
            refine go_cond hs ((ix (eI .u32).d t59 v108) != (ix (eI .u32).d l56 v108)) (by kernel_rfl) (fun hc => ?_) (fun hc => ?_)
            · replace H := ite_f H (bne_iff_ne.1 hc)
              have hb163 := hc
              rw [hb163] at hs
              refine go_seq_k fun K164 hK164 => ?_
              refine go_region ?_
              refine go_pvs 0 1 [4] hs (L' := [(4, .bool false)]) (by kernel_rfl) ?_ rfl
              clear hs; intro a hs
              refine go_end (by kernel_rfl) ?_
              refine hK164 _ _ ?_
              refine wp_ret ?_
              refine ib_ret ?_
              refine th_ret ?_
              refine th_ret ?_
              refine ib_ret ?_
              refine th_ret ?_
              rw [← hr106 _ (Option.some.inj H).symm] at HX106
              replace H : some false = some r := HX106
              obtain rfl := Option.some.inj H
              refine ret1 (t := 4) (v := .bool false) hs (by kernel_rfl) (by kernel_rfl) ?_
              exact ⟨rfl, hw.only 0⟩
            · replace H := ite_t H (bne_eq_false_iff_eq.1 hc)
              have hb165 := hc
              rw [hb165] at hs
              refine wp_skip ?_
              refine ib_norm ?_
              replace hw := hw.up 4
              replace hw := hw.up 4
              replace hw := hw.up 4
              replace hw := hw.up 4
              replace hw := hw.up 4
              replace hw := hw.only 5
              exact hJ5 v107 _ _ (hs.keep [6, 7, 9, 10, 15, 16] (by kernel_rfl)) hw H
        refine go_region ?_
        refine go_pvs 0 5 [6, 7, 9, 10, 15, 16, 104] hs (L' := [(6, .slice A24 l56.length c25), (7, .slice A33 t31.length c34), (9, .slice A63 t59.length c64), (10, .int .i64 t60), (15, .int .i64 v107), (16, .int .i64 v108), (104, .bool (decide (v107 < (t31.length : Int))))]) (by kernel_rfl) ?_ rfl
        clear hs; intro a hs
        cases hb114 : (decide (v107 < (t31.length : Int)))
        · replace H := ite_f H (of_decide_eq_false hb114)
          rw [hb114] at hs
          refine go_pvs 5 13 [6, 7, 9, 10, 15, 16, 17] hs (L' := [(6, .slice A24 l56.length c25), (7, .slice A33 t31.length c34), (9, .slice A63 t59.length c64), (10, .int .i64 t60), (15, .int .i64 v107), (16, .int .i64 v108), (17, .bool false)]) (by kernel_rfl) ?_ rfl
          clear hs; intro a hs
          refine go_end (by kernel_rfl) ?_
          replace hw := hw.up 4
          replace hw := hw.up 4
          replace hw := hw.up 4
          replace hw := hw.up 4
          replace hw := hw.up 4
          replace hw := hw.only 5
          exact hJ4 false _ _ (hs.keep [6, 7, 9, 10, 15, 16, 17] (by kernel_rfl)) hw H
        · replace H := ite_t H (of_decide_eq_true hb114)
          rw [hb114] at hs
          refine go_pvs 5 7 [6, 7, 9, 10, 15, 16, 104, 105, 106] hs (L' := [(6, .slice A24 l56.length c25), (7, .slice A33 t31.length c34), (9, .slice A63 t59.length c64), (10, .int .i64 t60), (15, .int .i64 v107), (16, .int .i64 v108), (104, .bool true), (105, .slice A33 t31.length c34), (106, .int .i64 v107)]) (by kernel_rfl) ?_ rfl
          clear hs; intro a hs
          obtain ⟨hp115, H⟩ := ite_only H
          obtain ⟨ad116, rfl⟩ := (Rd.of_own (hw.up 3)).some hp115.1 hp115.2
          refine go_run hs (op := (Op.indexAddr 35 (Operand.tmp 105) (Operand.tmp 106))) (ty := 0) (dst := some 107) (g := some (4, true)) (by kernel_rfl) (by kernel_rfl) (by kernel_rfl) (x_idx (T := 3) (sz := 1) (a := ad116) (n := t31.length) (cap := c34) (k := .i64) (i := v107) (by kernel_rfl) (by kernel_rfl) (by kernel_rfl) (by kernel_rfl) hp115.1 hp115.2) [6, 7, 9, 10, 15, 16, 104, 107] (L' := [(6, .slice A24 l56.length c25), (7, .slice (some ad116) t31.length c34), (9, .slice A63 t59.length c64), (10, .int .i64 t60), (15, .int .i64 v107), (16, .int .i64 v108), (104, .bool true), (107, .pointer (some (ad116.add (v107.toNat * 1))))]) (by kernel_rfl) ?_
          clear hs; intro a hs
          refine go_run hs (op := (Op.load 3 (Operand.tmp 107))) (ty := 3) (dst := some 108) (g := some (4, true)) (by kernel_rfl) (by kernel_rfl) (by kernel_rfl) (x_ld (E := (eI .i64)) (off := 0) (p := ad116.add (v107.toNat * 1)) (v := .int .i64 (ix (eI .i64).d t31 v107)) (Rd.of_own (hw.up 3)) hp115.1 hp115.2 (by kernel_rfl) rfl (by kernel_rfl) (by kernel_rfl)) [6, 7, 9, 10, 15, 16, 104, 108] (L' := [(6, .slice A24 l56.length c25), (7, .slice (some ad116) t31.length c34), (9, .slice A63 t59.length c64), (10, .int .i64 t60), (15, .int .i64 v107), (16, .int .i64 v108), (104, .bool true), (108, .int .i64 (ix (eI .i64).d t31 v107))]) (by kernel_rfl) ?_
          clear hs; intro a hs
          refine go_pvs 9 13 [6, 7, 9, 10, 15, 16, 17] hs (L' := [(6, .slice A24 l56.length c25), (7, .slice (some ad116) t31.length c34), (9, .slice A63 t59.length c64), (10, .int .i64 t60), (15, .int .i64 v107), (16, .int .i64 v108), (17, .bool ((ix (eI .i64).d t31 v107) == v108))]) (by kernel_rfl) ?_ rfl
          clear hs; intro a hs
          refine go_end (by kernel_rfl) ?_
          replace hw := hw.up 4
          replace hw := hw.up 4
          replace hw := hw.up 4
          replace hw := hw.up 4
          replace hw := hw.up 4
          replace hw := hw.only 5
          exact hJ4 ((ix (eI .i64).d t31 v107) == v108) _ _ (hs.keep [6, 7, 9, 10, 15, 16, 17] (by kernel_rfl)) hw H
      · replace H := ite_f H (of_decide_eq_false hc)
        have hb167 := hc
        rw [hb167] at hs
        refine wp_exit ?_
        refine th_exit ?_
        refine th_exit ?_
        refine in_block ?_
        replace hw := hw.up 4
        replace hw := hw.up 4
        replace hw := hw.up 4
        replace hw := hw.up 4
        replace hw := hw.up 4
        replace hw := hw.only 5
        rw [← hr106 _ (Option.some.inj H).symm] at HX106
        exact hJ6 _ _ (hs.keep [] (by kernel_rfl)) hw HX106
    refine go_seq_k fun K83 hK83 => ?_
    have hJ2 : ∀ (v99 : Bool) (a : Act) (w : World), Slots a 148 [(6, .slice A24 l56.length c25), (7, .slice A33 t31.length c34), (9, .slice A63 t59.length c64), (10, .int .i64 t60), (93, .bool v99)] → St [] w0 w [own 23 (eI .u32) A74 c75 t70, own 3 (eI .i64) A76 c77 t71, own 23 (eI .u32) A63 c64 t59, own 3 (eI .i64) A33 c34 t31, own 23 (eI .u32) A24 c25 l56] → rivetlaw08_ChainBack.j2 l56 t31 t59 t60 v99 = some r → K83 a w := by
      intro v99 a w hs hw H
      unfold rivetlaw08_ChainBack.j2 at H
      refine hK83 _ _ ?_
      refine go_cond hs v99 (by kernel_rfl) (fun hc => ?_) (fun hc => ?_)
      · replace H := ite_t H hc
        have hb100 := hc
        rw [hb100] at hs
        refine go_seq_k fun K101 hK101 => ?_
        refine go_region ?_
        refine go_pvs 0 1 [4] hs (L' := [(4, .bool false)]) (by kernel_rfl) ?_ rfl
        clear hs; intro a hs
        refine go_end (by kernel_rfl) ?_
        refine hK101 _ _ ?_
        refine wp_ret ?_
        refine th_ret ?_
        obtain rfl := Option.some.inj H
        refine ret1 (t := 4) (v := .bool false) hs (by kernel_rfl) (by kernel_rfl) ?_
        exact ⟨rfl, hw.only 0⟩
      · replace H := ite_f H (ff hc)
        have hb102 := hc
        rw [hb102] at hs
        refine wp_skip ?_
        replace hw := hw.up 4
        replace hw := hw.up 4
        replace hw := hw.up 4
        replace hw := hw.up 4
        replace hw := hw.up 4
        replace hw := hw.only 5
        exact hJ3 _ _ (hs.keep [6, 7, 9, 10] (by kernel_rfl)) hw H
    refine go_region ?_
    refine go_pvs 0 3 [6, 7, 9, 10, 11, 12, 13, 14, 67] hs (L' := [(6, .slice A24 l56.length c25), (7, .slice A33 t31.length c34), (9, .slice A63 t59.length c64), (10, .int .i64 t60), (11, .int .i64 t61), (12, .slice A74 t70.length c75), (13, .slice A76 t71.length c77), (14, .int .i64 t72), (67, .bool (!t4))]) (by kernel_rfl) ?_ rfl
    clear hs; intro a hs
    cases hb84 : (!t4)
    · replace H := ite_t H (nf hb84)
      rw [hb84] at hs
      refine go_pvs 3 7 [6, 7, 9, 10, 12, 13, 14, 71] hs (L' := [(6, .slice A24 l56.length c25), (7, .slice A33 t31.length c34), (9, .slice A63 t59.length c64), (10, .int .i64 t60), (12, .slice A74 t70.length c75), (13, .slice A76 t71.length c77), (14, .int .i64 t72), (71, .bool (t61 != 0))]) (by kernel_rfl) ?_ rfl
      clear hs; intro a hs
      cases hb85 : (t61 != 0)
      · replace H := ite_t H (bne_eq_false_iff_eq.1 hb85)
        rw [hb85] at hs
        refine go_pvs 7 11 [6, 7, 9, 10, 12, 13, 75] hs (L' := [(6, .slice A24 l56.length c25), (7, .slice A33 t31.length c34), (9, .slice A63 t59.length c64), (10, .int .i64 t60), (12, .slice A74 t70.length c75), (13, .slice A76 t71.length c77), (75, .bool (t72 != 0))]) (by kernel_rfl) ?_ rfl
        clear hs; intro a hs
        cases hb86 : (t72 != 0)
        · replace H := ite_t H (bne_eq_false_iff_eq.1 hb86)
          rw [hb86] at hs
          refine go_pvs 11 18 [6, 7, 9, 10, 12, 13, 82] hs (L' := [(6, .slice A24 l56.length c25), (7, .slice A33 t31.length c34), (9, .slice A63 t59.length c64), (10, .int .i64 t60), (12, .slice A74 t70.length c75), (13, .slice A76 t71.length c77), (82, .bool ((t59.length : Int) != (l56.length : Int)))]) (by kernel_rfl) ?_ rfl
          clear hs; intro a hs
          cases hb87 : ((t59.length : Int) != (l56.length : Int))
          · replace H := ite_t H (bne_eq_false_iff_eq.1 hb87)
            rw [hb87] at hs
            refine go_pvs 18 20 [6, 7, 9, 10, 13, 82, 83, 84] hs (L' := [(6, .slice A24 l56.length c25), (7, .slice A33 t31.length c34), (9, .slice A63 t59.length c64), (10, .int .i64 t60), (13, .slice A76 t71.length c77), (82, .bool false), (83, .slice A74 t70.length c75), (84, .slice A24 l56.length c25)]) (by kernel_rfl) ?_ rfl
            clear hs; intro a hs
            obtain ⟨t89, hx90, H⟩ := bind_some H
            refine go_call hs (op := (Op.call { callee := (Callee.value (Operand.func 18)), args := #[(Operand.tmp 83), (Operand.tmp 84)], argTypes := #[22, 22] })) (ty := 4) (dst := some 85) (g := some (17, false)) (by kernel_rfl) (by kernel_rfl) (by kernel_rfl) (f := 18) (args := #[.slice A74 t70.length c75, .slice A24 l56.length c25]) (by kernel_rfl) (rivetref05_Same.calls A74 c75 t70 A24 c25 l56 t89 _ (Rd.of_own (hw.up 0)) (Rd.of_own (hw.up 4)) hx90) ?_
            rintro e wd91 ⟨rfl, hw92⟩
            refine ⟨_, rfl, ?_⟩
            replace hw := hw.call hw92
            intro a hs1
            replace hs : Slots a 148 [(6, .slice A24 l56.length c25), (7, .slice A33 t31.length c34), (9, .slice A63 t59.length c64), (10, .int .i64 t60), (13, .slice A76 t71.length c77), (82, .bool false), (85, .bool t89)] := hs1.keep [6, 7, 9, 10, 13, 82, 85] (by kernel_rfl)
            clear hs1
            refine go_pvs 21 24 [6, 7, 9, 10, 13, 88] hs (L' := [(6, .slice A24 l56.length c25), (7, .slice A33 t31.length c34), (9, .slice A63 t59.length c64), (10, .int .i64 t60), (13, .slice A76 t71.length c77), (88, .bool (!t89))]) (by kernel_rfl) ?_ rfl
            clear hs; intro a hs
            cases hb93 : (!t89)
            · replace H := ite_t H (nf hb93)
              rw [hb93] at hs
              refine go_pvs 24 26 [6, 7, 9, 10, 88, 89, 90] hs (L' := [(6, .slice A24 l56.length c25), (7, .slice A33 t31.length c34), (9, .slice A63 t59.length c64), (10, .int .i64 t60), (88, .bool false), (89, .slice A33 t31.length c34), (90, .slice A76 t71.length c77)]) (by kernel_rfl) ?_ rfl
              clear hs; intro a hs
              obtain ⟨t95, hx96, H⟩ := bind_some H
              refine go_call hs (op := (Op.call { callee := (Callee.value (Operand.func 26)), args := #[(Operand.tmp 89), (Operand.tmp 90)], argTypes := #[35, 35] })) (ty := 4) (dst := some 91) (g := some (23, false)) (by kernel_rfl) (by kernel_rfl) (by kernel_rfl) (f := 26) (args := #[.slice A33 t31.length c34, .slice A76 t71.length c77]) (by kernel_rfl) (rivetref08_Same.calls A33 c34 t31 A76 c77 t71 t95 _ (Rd.of_own (hw.up 3)) (Rd.of_own (hw.up 1)) hx96) ?_
              rintro e wd97 ⟨rfl, hw98⟩
              refine ⟨_, rfl, ?_⟩
              replace hw := hw.call hw98
              intro a hs1
              replace hs : Slots a 148 [(6, .slice A24 l56.length c25), (7, .slice A33 t31.length c34), (9, .slice A63 t59.length c64), (10, .int .i64 t60), (88, .bool false), (91, .bool t95)] := hs1.keep [6, 7, 9, 10, 88, 91] (by kernel_rfl)
              clear hs1
              refine go_pvs 27 29 [6, 7, 9, 10, 93] hs (L' := [(6, .slice A24 l56.length c25), (7, .slice A33 t31.length c34), (9, .slice A63 t59.length c64), (10, .int .i64 t60), (93, .bool (!t95))]) (by kernel_rfl) ?_ rfl
              clear hs; intro a hs
              refine go_end (by kernel_rfl) ?_
              replace hw := hw.up 4
              replace hw := hw.up 4
              replace hw := hw.up 4
              replace hw := hw.up 4
              replace hw := hw.up 4
              replace hw := hw.only 5
              exact hJ2 (!t95) _ _ (hs.keep [6, 7, 9, 10, 93] (by kernel_rfl)) hw H
            · replace H := ite_f H (ff (nt hb93))
              rw [hb93] at hs
              refine go_pvs 24 29 [6, 7, 9, 10, 93] hs (L' := [(6, .slice A24 l56.length c25), (7, .slice A33 t31.length c34), (9, .slice A63 t59.length c64), (10, .int .i64 t60), (93, .bool true)]) (by kernel_rfl) ?_ rfl
              clear hs; intro a hs
              refine go_end (by kernel_rfl) ?_
              replace hw := hw.up 4
              replace hw := hw.up 4
              replace hw := hw.up 4
              replace hw := hw.up 4
              replace hw := hw.up 4
              replace hw := hw.only 5
              exact hJ2 true _ _ (hs.keep [6, 7, 9, 10, 93] (by kernel_rfl)) hw H
          · replace H := ite_f H (bne_iff_ne.1 hb87)
            rw [hb87] at hs
            refine go_pvs 18 29 [6, 7, 9, 10, 93] hs (L' := [(6, .slice A24 l56.length c25), (7, .slice A33 t31.length c34), (9, .slice A63 t59.length c64), (10, .int .i64 t60), (93, .bool true)]) (by kernel_rfl) ?_ rfl
            clear hs; intro a hs
            refine go_end (by kernel_rfl) ?_
            replace hw := hw.up 4
            replace hw := hw.up 4
            replace hw := hw.up 4
            replace hw := hw.up 4
            replace hw := hw.up 4
            replace hw := hw.only 5
            exact hJ2 true _ _ (hs.keep [6, 7, 9, 10, 93] (by kernel_rfl)) hw H
        · replace H := ite_f H (bne_iff_ne.1 hb86)
          rw [hb86] at hs
          refine go_pvs 11 29 [6, 7, 9, 10, 93] hs (L' := [(6, .slice A24 l56.length c25), (7, .slice A33 t31.length c34), (9, .slice A63 t59.length c64), (10, .int .i64 t60), (93, .bool true)]) (by kernel_rfl) ?_ rfl
          clear hs; intro a hs
          refine go_end (by kernel_rfl) ?_
          replace hw := hw.up 4
          replace hw := hw.up 4
          replace hw := hw.up 4
          replace hw := hw.up 4
          replace hw := hw.up 4
          replace hw := hw.only 5
          exact hJ2 true _ _ (hs.keep [6, 7, 9, 10, 93] (by kernel_rfl)) hw H
      · replace H := ite_f H (bne_iff_ne.1 hb85)
        rw [hb85] at hs
        refine go_pvs 7 29 [6, 7, 9, 10, 93] hs (L' := [(6, .slice A24 l56.length c25), (7, .slice A33 t31.length c34), (9, .slice A63 t59.length c64), (10, .int .i64 t60), (93, .bool true)]) (by kernel_rfl) ?_ rfl
        clear hs; intro a hs
        refine go_end (by kernel_rfl) ?_
        replace hw := hw.up 4
        replace hw := hw.up 4
        replace hw := hw.up 4
        replace hw := hw.up 4
        replace hw := hw.up 4
        replace hw := hw.only 5
        exact hJ2 true _ _ (hs.keep [6, 7, 9, 10, 93] (by kernel_rfl)) hw H
    · replace H := ite_f H (ff (nt hb84))
      rw [hb84] at hs
      refine go_pvs 3 29 [6, 7, 9, 10, 93] hs (L' := [(6, .slice A24 l56.length c25), (7, .slice A33 t31.length c34), (9, .slice A63 t59.length c64), (10, .int .i64 t60), (93, .bool true)]) (by kernel_rfl) ?_ rfl
      clear hs; intro a hs
      refine go_end (by kernel_rfl) ?_
      replace hw := hw.up 4
      replace hw := hw.up 4
      replace hw := hw.up 4
      replace hw := hw.up 4
      replace hw := hw.up 4
      replace hw := hw.only 5
      exact hJ2 true _ _ (hs.keep [6, 7, 9, 10, 93] (by kernel_rfl)) hw H
  clear H
  refine go_loop (σ := (List Int) × Int) (fun σ a w => Slots a 148 [(5, .bool t4), (6, .slice A24 σ.1.length c25), (7, .slice A33 t31.length c34), (8, .int .i64 σ.2)] ∧ St [] w0 w [own 3 (eI .i64) A33 c34 t31, own 23 (eI .u32) A24 c25 σ.1]) hl40 (by exact ⟨hs.keep [5, 6, 7, 8] (by kernel_rfl), hw⟩) ?_
  rintro ⟨l41, v42⟩ a w ⟨hs, hw⟩ o H hr40
  replace hs : Slots a 148 [(5, .bool t4), (6, .slice A24 l41.length c25), (7, .slice A33 t31.length c34), (8, .int .i64 v42)] := hs
  replace hw : St [] w0 w [own 3 (eI .i64) A33 c34 t31, own 23 (eI .u32) A24 c25 l41] := hw
  replace H : rivetlaw08_ChainBack.b40 t31 l41 v42 = some o := H
  unfold rivetlaw08_ChainBack.b40 at H
  refine go_seq_k fun K43 hK43 => ?_
  refine go_seq_k fun K44 hK44 => ?_
  refine go_region ?_
  refine go_pvs 0 4 [5, 6, 7, 8, 34] hs (L' := [(5, .bool t4), (6, .slice A24 l41.length c25), (7, .slice A33 t31.length c34), (8, .int .i64 v42), (34, .bool (decide (v42 < (t31.length : Int))))]) (by kernel_rfl) ?_ rfl
  clear hs; intro a hs
  refine go_end (by kernel_rfl) ?_
  refine hK44 _ _ ?_
  refine go_cond hs (decide (v42 < (t31.length : Int))) (by kernel_rfl) (fun hc => ?_) (fun hc => ?_)
  · replace H := ite_t H (of_decide_eq_true hc)
    have hb45 := hc
    rw [hb45] at hs
    refine wp_skip ?_
    refine hK43 _ _ ?_
    refine go_seq_k fun K46 hK46 => ?_
    refine wp_block ?_
    refine t_region [(0, true), (1, true), (2, true), (3, true), (4, false), (5, true), (6, true), (7, true), (8, true), (9, false), (10, true), (11, false), (12, true), (13, true)] [14] (by kernel_rfl) (by kernel_rfl) (fun c a d v w h => by cases d <;> exact h) ?_
    refine t_pvs [0, 1, 2] [(3, true), (4, false), (5, true), (6, true), (7, true), (8, true), (9, false), (10, true), (11, false), (12, true), (13, true)] [5, 6, 7, 8, 37, 38, 39] hs (L' := [(5, .bool t4), (6, .slice A24 l41.length c25), (7, .slice A33 t31.length c34), (8, .int .i64 v42), (37, .slice A24 l41.length c25), (38, .slice A33 t31.length c34), (39, .int .i64 v42)]) (by kernel_rfl) ?_ (by kernel_rfl)
    clear hs; intro a hs
    obtain ⟨hp47, H⟩ := ite_only H
    obtain ⟨ad48, rfl⟩ := (Rd.of_own (hw.up 0)).some hp47.1 hp47.2
    refine t_run hs (op := (Op.indexAddr 35 (Operand.tmp 38) (Operand.tmp 39))) (ty := 0) (dst := some 40) (g := none) (by kernel_rfl) (by kernel_rfl) (by kernel_rfl) (fun wx => (x_idx (T := 3) (sz := 1) (a := ad48) (n := t31.length) (cap := c34) (k := .i64) (i := v42) (by kernel_rfl) (by kernel_rfl) (by kernel_rfl) (by kernel_rfl) hp47.1 hp47.2)) [5, 6, 7, 8, 37, 40] (L' := [(5, .bool t4), (6, .slice A24 l41.length c25), (7, .slice (some ad48) t31.length c34), (8, .int .i64 v42), (37, .slice A24 l41.length c25), (40, .pointer (some (ad48.add (v42.toNat * 1))))]) (by kernel_rfl) ?_
    clear hs; intro a hs
    refine t_rd hs (op := (Op.load 3 (Operand.tmp 40))) (ty := 3) (dst := some 41) (g := none) (by kernel_rfl) (by kernel_rfl) (by kernel_rfl) (fun wx hbx => (x_ld (E := (eI .i64)) (off := 0) (p := ad48.add (v42.toNat * 1)) (v := .int .i64 (ix (eI .i64).d t31 v42)) ((Rd.of_own (hw.up 0)).below hbx) hp47.1 hp47.2 (by kernel_rfl) rfl (by kernel_rfl) (by kernel_rfl))) [5, 6, 7, 8, 37, 41] (L' := [(5, .bool t4), (6, .slice A24 l41.length c25), (7, .slice (some ad48) t31.length c34), (8, .int .i64 v42), (37, .slice A24 l41.length c25), (41, .int .i64 (ix (eI .i64).d t31 v42))]) (by kernel_rfl) ?_
    clear hs; intro a hs
    refine t_pvs [5, 6, 7] [(8, true), (9, false), (10, true), (11, false), (12, true), (13, true)] [5, 6, 7, 8, 37, 41, 42, 43, 44] hs (L' := [(5, .bool t4), (6, .slice A24 l41.length c25), (7, .slice (some ad48) t31.length c34), (8, .int .i64 v42), (37, .slice A24 l41.length c25), (41, .int .i64 (ix (eI .i64).d t31 v42)), (42, .slice A24 l41.length c25), (43, .slice (some ad48) t31.length c34), (44, .int .i64 v42)]) (by kernel_rfl) ?_ (by kernel_rfl)
    clear hs; intro a hs
    obtain ⟨hp49, H⟩ := ite_only H
    refine t_run hs (op := (Op.indexAddr 35 (Operand.tmp 43) (Operand.tmp 44))) (ty := 0) (dst := some 45) (g := none) (by kernel_rfl) (by kernel_rfl) (by kernel_rfl) (fun wx => (x_idx (T := 3) (sz := 1) (a := ad48) (n := t31.length) (cap := c34) (k := .i64) (i := v42) (by kernel_rfl) (by kernel_rfl) (by kernel_rfl) (by kernel_rfl) hp49.1 hp49.2)) [5, 6, 7, 8, 37, 41, 42, 45] (L' := [(5, .bool t4), (6, .slice A24 l41.length c25), (7, .slice (some ad48) t31.length c34), (8, .int .i64 v42), (37, .slice A24 l41.length c25), (41, .int .i64 (ix (eI .i64).d t31 v42)), (42, .slice A24 l41.length c25), (45, .pointer (some (ad48.add (v42.toNat * 1))))]) (by kernel_rfl) ?_
    clear hs; intro a hs
    refine t_rd hs (op := (Op.load 3 (Operand.tmp 45))) (ty := 3) (dst := some 46) (g := none) (by kernel_rfl) (by kernel_rfl) (by kernel_rfl) (fun wx hbx => (x_ld (E := (eI .i64)) (off := 0) (p := ad48.add (v42.toNat * 1)) (v := .int .i64 (ix (eI .i64).d t31 v42)) ((Rd.of_own (hw.up 0)).below hbx) hp49.1 hp49.2 (by kernel_rfl) rfl (by kernel_rfl) (by kernel_rfl))) [5, 6, 7, 8, 37, 41, 42, 46] (L' := [(5, .bool t4), (6, .slice A24 l41.length c25), (7, .slice (some ad48) t31.length c34), (8, .int .i64 v42), (37, .slice A24 l41.length c25), (41, .int .i64 (ix (eI .i64).d t31 v42)), (42, .slice A24 l41.length c25), (46, .int .i64 (ix (eI .i64).d t31 v42))]) (by kernel_rfl) ?_
    clear hs; intro a hs
    obtain ⟨hp50, H⟩ := ite_only H
    obtain ⟨ad51, rfl⟩ := (Rd.of_own (hw.up 1)).some hp50.1 hp50.2
    refine t_run hs (op := (Op.indexAddr 22 (Operand.tmp 42) (Operand.tmp 46))) (ty := 0) (dst := some 47) (g := none) (by kernel_rfl) (by kernel_rfl) (by kernel_rfl) (fun wx => (x_idx (T := 23) (sz := 1) (a := ad51) (n := l41.length) (cap := c25) (k := .i64) (i := (ix (eI .i64).d t31 v42)) (by kernel_rfl) (by kernel_rfl) (by kernel_rfl) (by kernel_rfl) hp50.1 hp50.2)) [5, 6, 7, 8, 37, 41, 47] (L' := [(5, .bool t4), (6, .slice (some ad51) l41.length c25), (7, .slice (some ad48) t31.length c34), (8, .int .i64 v42), (37, .slice (some ad51) l41.length c25), (41, .int .i64 (ix (eI .i64).d t31 v42)), (47, .pointer (some (ad51.add ((ix (eI .i64).d t31 v42).toNat * 1))))]) (by kernel_rfl) ?_
    clear hs; intro a hs
    refine t_rd hs (op := (Op.load 23 (Operand.tmp 47))) (ty := 23) (dst := some 48) (g := none) (by kernel_rfl) (by kernel_rfl) (by kernel_rfl) (fun wx hbx => (x_ld (E := (eI .u32)) (off := 0) (p := ad51.add ((ix (eI .i64).d t31 v42).toNat * 1)) (v := .int .u32 (ix (eI .u32).d l41 (ix (eI .i64).d t31 v42))) ((Rd.of_own (hw.up 1)).below hbx) hp50.1 hp50.2 (by kernel_rfl) rfl (by kernel_rfl) (by kernel_rfl))) [5, 6, 7, 8, 37, 41, 48] (L' := [(5, .bool t4), (6, .slice (some ad51) l41.length c25), (7, .slice (some ad48) t31.length c34), (8, .int .i64 v42), (37, .slice (some ad51) l41.length c25), (41, .int .i64 (ix (eI .i64).d t31 v42)), (48, .int .u32 (ix (eI .u32).d l41 (ix (eI .i64).d t31 v42)))]) (by kernel_rfl) ?_
    clear hs; intro a hs
    refine t_pvs [12] [(13, true)] [5, 6, 7, 8, 37, 41, 49] hs (L' := [(5, .bool t4), (6, .slice (some ad51) l41.length c25), (7, .slice (some ad48) t31.length c34), (8, .int .i64 v42), (37, .slice (some ad51) l41.length c25), (41, .int .i64 (ix (eI .i64).d t31 v42)), (49, .int .u32 (band .u32 (ix (eI .u32).d l41 (ix (eI .i64).d t31 v42)) 65535))]) (by kernel_rfl) ?_ (by kernel_rfl)
    clear hs; intro a hs
    obtain ⟨hp52, H⟩ := ite_only H
    refine t_run hs (op := (Op.indexAddr 22 (Operand.tmp 37) (Operand.tmp 41))) (ty := 0) (dst := some 50) (g := none) (by kernel_rfl) (by kernel_rfl) (by kernel_rfl) (fun wx => (x_idx (T := 23) (sz := 1) (a := ad51) (n := l41.length) (cap := c25) (k := .i64) (i := (ix (eI .i64).d t31 v42)) (by kernel_rfl) (by kernel_rfl) (by kernel_rfl) (by kernel_rfl) hp52.1 hp52.2)) [5, 6, 7, 8, 49, 50] (L' := [(5, .bool t4), (6, .slice (some ad51) l41.length c25), (7, .slice (some ad48) t31.length c34), (8, .int .i64 v42), (49, .int .u32 (band .u32 (ix (eI .u32).d l41 (ix (eI .i64).d t31 v42)) 65535)), (50, .pointer (some (ad51.add ((ix (eI .i64).d t31 v42).toNat * 1))))]) (by kernel_rfl) ?_
    clear hs; intro a hs
    refine t_end ?_
    intro wq hbq
    replace hw := hw.behind hbq
    replace hw := hw.up 1
    obtain ⟨wd53, hx54, hw⟩ := x_put (P := Try.prog) (L := [(5, .bool t4), (6, .slice (some ad51) l41.length c25), (7, .slice (some ad48) t31.length c34), (8, .int .i64 v42), (49, .int .u32 (band .u32 (ix (eI .u32).d l41 (ix (eI .i64).d t31 v42)) 65535)), (50, .pointer (some (ad51.add ((ix (eI .i64).d t31 v42).toNat * 1))))]) (ty := 0) (t := 23) (x := (Operand.tmp 50)) (y := (Operand.tmp 49)) (off := 0) (p := ad51.add ((ix (eI .i64).d t31 v42).toNat * 1)) (v := .int .u32 (band .u32 (ix (eI .u32).d l41 (ix (eI .i64).d t31 v42)) 65535)) (vs := [.int .u32 (band .u32 (ix (eI .u32).d l41 (ix (eI .i64).d t31 v42)) 65535)]) (i := (ix (eI .i64).d t31 v42)) (e' := band .u32 (ix (eI .u32).d l41 (ix (eI .i64).d t31 v42)) 65535) hw rfl hp52.1 hp52.2 (by kernel_rfl) rfl (by kernel_rfl) rfl (by kernel_rfl) (Nat.le_of_ble_eq_true rfl) (by simp [Value.oneCell']) (by kernel_rfl)
    refine p_unit hs (op := (Op.store 23 (Operand.tmp 50) (Operand.tmp 49))) (ty := 0) (dst := none) (g := none) (by kernel_rfl) (by kernel_rfl) (by kernel_rfl) hx54 [5, 6, 7, 8] (L' := [(5, .bool t4), (6, .slice (some ad51) l41.length c25), (7, .slice (some ad48) t31.length c34), (8, .int .i64 v42)]) (by kernel_rfl) ?_
    clear hs; intro a hs
    replace hs : Slots a 148 [(5, .bool t4), (6, .slice (some ad51) (l41.set ((ix (eI .i64).d t31 v42) : Int).toNat (band .u32 (ix (eI .u32).d l41 (ix (eI .i64).d t31 v42)) 65535)).length c25), (7, .slice (some ad48) t31.length c34), (8, .int .i64 v42)] := by rw [List.length_set]; exact hs
    refine p_end ?_
    refine ib_norm ?_
    refine hK46 _ _ ?_
    refine go_region ?_
    refine go_pvs 0 3 [5, 6, 7, 8] hs (L' := [(5, .bool t4), (6, .slice (some ad51) (l41.set ((ix (eI .i64).d t31 v42) : Int).toNat (band .u32 (ix (eI .u32).d l41 (ix (eI .i64).d t31 v42)) 65535)).length c25), (7, .slice (some ad48) t31.length c34), (8, .int .i64 (w64 (v42 + 1)))]) (by kernel_rfl) ?_ rfl
    clear hs; intro a hs
    refine go_end (by kernel_rfl) ?_
    replace hw := hw.up 1
    replace hw := hw.only 2
    exact round_end (l41.set ((ix (eI .i64).d t31 v42) : Int).toNat (band .u32 (ix (eI .u32).d l41 (ix (eI .i64).d t31 v42)) 65535), w64 (v42 + 1)) (Option.some.inj H).symm ⟨hs.keep [5, 6, 7, 8] (by kernel_rfl), hw⟩
  · replace H := ite_f H (of_decide_eq_false hc)
    have hb55 := hc
    rw [hb55] at hs
    refine wp_exit ?_
    refine th_exit ?_
    refine th_exit ?_
    refine in_block ?_
    replace hw := hw.up 1
    replace hw := hw.up 1
    replace hw := hw.only 2
    rw [← hr40 _ (Option.some.inj H).symm] at HX40
    exact hJ1 l41 _ _ (hs.keep [5, 6, 7] (by kernel_rfl)) hw HX40

/-! rivet/rivetlaw08.ChainTaken: function 7 -/
noncomputable def rivetlaw08_ChainTaken.j5 (v111 : Bool) : Option Bool := some v111
noncomputable def rivetlaw08_ChainTaken.j4 (v89 : Bool) : Option Bool := some v89
noncomputable def rivetlaw08_ChainTaken.j3 (t49 : Int) (t47 : List Int) (t48 : List Int) (t4 : Bool) (a1 : Int) (l44 : List Int) : Option Bool := (if t49 = 0 then ((chain_Pack t47 t48).bind fun ⟨t93, t94, t95⟩ => ((if t4 = true then (if t95 = 0 then (if t94 = (w64 (a1.tmod 32)) then ((rivetref05_Same t93 l44).bind fun t107 => (rivetlaw08_ChainTaken.j5 t107)) else rivetlaw08_ChainTaken.j5 false) else rivetlaw08_ChainTaken.j5 false) else rivetlaw08_ChainTaken.j5 false))) else (if t4 = true then (if (t47.length : Int) = 0 then (if (t48.length : Int) = 0 then rivetlaw08_ChainTaken.j4 (t49 == 10) else rivetlaw08_ChainTaken.j4 false) else rivetlaw08_ChainTaken.j4 false) else rivetlaw08_ChainTaken.j4 false))
noncomputable def rivetlaw08_ChainTaken.j2 (t49 : Int) (t47 : List Int) (t48 : List Int) (t4 : Bool) (a1 : Int) (l44 : List Int) (v78 : Bool) : Option Bool := (if v78 = true then some false else rivetlaw08_ChainTaken.j3 t49 t47 t48 t4 a1 l44)
noncomputable def rivetlaw08_ChainTaken.j1 (a1 : Int) (a2 : Int) (t4 : Bool) (l44 : List Int) : Option Bool := ((chain_Unpack l44 (w64 (a1.tmod 32))).bind fun ⟨t47, t48, t49⟩ => (((chain_Unpack l44 a2).bind fun ⟨t61, t62, t63⟩ => ((if t63 = 0 then rivetlaw08_ChainTaken.j2 t49 t47 t48 t4 a1 l44 false else (if (t61.length : Int) = 0 then (if (t62.length : Int) = 0 then rivetlaw08_ChainTaken.j2 t49 t47 t48 t4 a1 l44 (t63 != 10) else rivetlaw08_ChainTaken.j2 t49 t47 t48 t4 a1 l44 true) else rivetlaw08_ChainTaken.j2 t49 t47 t48 t4 a1 l44 true))))))
noncomputable def rivetlaw08_ChainTaken.b31 (l32 : List Int) (v33 : Int) : Option ((List Int) × Int ⊕ (List Int)) := (if v33 < (l32.length : Int) then (if 0 ≤ v33 ∧ v33 < (l32.length : Int) then (if 0 ≤ v33 ∧ v33 < (l32.length : Int) then some (.inl (l32.set (v33 : Int).toNat (bandn .u32 (ix (eI .u32).d l32 v33) 65504), w64 (v33 + 1))) else none) else none) else some (.inr l32))
noncomputable def rivetlaw08_ChainTaken (l0 : List Int) (a1 : Int) (a2 : Int) : Option Bool := ((rivetlaw08_shown).bind fun t4 => ((if 0 ≤ (mnn (l0.length : Int) 30) ∧ (mnn (l0.length : Int) 30) ≤ (l0.length : Int) then (if ([] : List Int).length + (l0.take (mnn (l0.length : Int) 30 : Int).toNat).length ≤ 35184372088832 then ((loopO (fun (σ : (List Int) × Int) => rivetlaw08_ChainTaken.b31 σ.1 σ.2) (([] : List Int) ++ (l0.take (mnn (l0.length : Int) 30 : Int).toNat), 0)).bind fun e => rivetlaw08_ChainTaken.j1 a1 a2 t4 e) else none) else none)))
set_option maxRecDepth 100000 in
set_option maxHeartbeats 4000000 in
theorem rivetlaw08_ChainTaken.calls (A0 : Option Addr) (c0 : Nat) (l0 : List Int) (a1 : Int) (a2 : Int) (r : Bool) (w0 : World) (hr0 : Rd w0 (eI .u32) A0 c0 l0) (H : rivetlaw08_ChainTaken l0 a1 a2 = some r) :
    Calls Try.prog 7 #[.slice A0 l0.length c0, .int .u8 a1, .int .i64 a2] w0 fun e w' => e = .returned (.bool r) ∧ St [] w0 w' [] := by
  have hw : St [] w0 w0 [] := St.nil w0
  unfold rivetlaw08_ChainTaken at H
  refine go_fn Try.func7 rfl 111 Try.ntmps7 [(0, .slice A0 l0.length c0), (1, .int .u8 a1), (2, .int .i64 a2)] (by kernel_rfl) rfl ?_
  intro a hs
  refine go_seq_k fun K1 hK1 => ?_
  refine go_region ?_
  refine go_pvs 0 1 [0, 1, 2] hs (L' := [(0, .slice A0 l0.length c0), (1, .int .u8 a1), (2, .int .i64 a2)]) (by kernel_rfl) ?_ rfl
  clear hs; intro a hs
  refine go_end (by kernel_rfl) ?_
  refine hK1 _ _ ?_
  refine go_seq_k fun K2 hK2 => ?_
  refine go_region ?_
  obtain ⟨t4, hx5, H⟩ := bind_some H
  refine go_call hs (op := (Op.call { callee := (Callee.value (Operand.func 19)), args := #[], argTypes := #[] })) (ty := 4) (dst := some 19) (g := none) (by kernel_rfl) (by kernel_rfl) (by kernel_rfl) (f := 19) (args := #[]) (by kernel_rfl) (rivetlaw08_shown.calls t4 _ hx5) ?_
  rintro e wd6 ⟨rfl, hw7⟩
  refine ⟨_, rfl, ?_⟩
  replace hw := hw.call hw7
  intro a hs1
  replace hs : Slots a 111 [(0, .slice A0 l0.length c0), (1, .int .u8 a1), (2, .int .i64 a2), (19, .bool t4)] := hs1.keep [0, 1, 2, 19] (by kernel_rfl)
  clear hs1
  refine go_pvs 1 2 [0, 1, 2, 7] hs (L' := [(0, .slice A0 l0.length c0), (1, .int .u8 a1), (2, .int .i64 a2), (7, .bool t4)]) (by kernel_rfl) ?_ rfl
  clear hs; intro a hs
  refine go_end (by kernel_rfl) ?_
  refine hK2 _ _ ?_
  refine go_seq_k fun K8 hK8 => ?_
  refine go_region ?_
  obtain ⟨A9, c10, wd11, hx12, hw⟩ := n_lit0 (P := Try.prog) (L := [(0, .slice A0 l0.length c0), (1, .int .u8 a1), (2, .int .i64 a2), (7, .bool t4)]) (t := 22) (ty := 22) (T := 23) hw (eI .u32) (by kernel_rfl) (by kernel_rfl)
  refine go_run hs (op := (Op.buildSlice 22 0 #[])) (ty := 22) (dst := some 20) (g := none) (by kernel_rfl) (by kernel_rfl) (by kernel_rfl) hx12 [0, 1, 2, 7, 20] (L' := [(0, .slice A0 l0.length c0), (1, .int .u8 a1), (2, .int .i64 a2), (7, .bool t4), (20, .slice A9 ([] : List Int).length c10)]) (by kernel_rfl) ?_
  clear hs; intro a hs
  refine go_pvs 1 2 [1, 2, 7, 20, 21] hs (L' := [(1, .int .u8 a1), (2, .int .i64 a2), (7, .bool t4), (20, .slice A9 ([] : List Int).length c10), (21, .slice A0 l0.length c0)]) (by kernel_rfl) ?_ rfl
  clear hs; intro a hs
  refine go_inline_k hs (op := (Op.call { callee := (Callee.value (Operand.func 21)), args := #[(Operand.tmp 21)], argTypes := #[22] })) (ty := 22) (dst := some 22) (g := none) (by kernel_rfl) (by kernel_rfl) (by kernel_rfl) (f := 21) (args := #[.slice A0 l0.length c0]) (by kernel_rfl) (fun KR14 hKR14 => ?_)
  refine go_fn Try.func21 rfl 8 Try.ntmps21 [(0, .slice A0 l0.length c0)] (by kernel_rfl) rfl ?_
  clear hs; intro a hs
  refine go_seq_k fun K15 hK15 => ?_
  refine go_region ?_
  refine go_pvs 0 1 [0] hs (L' := [(0, .slice A0 l0.length c0)]) (by kernel_rfl) ?_ rfl
  clear hs; intro a hs
  refine go_end (by kernel_rfl) ?_
  refine hK15 _ _ ?_
  refine go_seq_k fun K16 hK16 => ?_
  refine go_region ?_
  refine go_pvs 0 4 [3, 6] hs (L' := [(3, .slice A0 l0.length c0), (6, .int .i64 (mnn (l0.length : Int) 30))]) (by kernel_rfl) ?_ rfl
  clear hs; intro a hs
  obtain ⟨hp17, H⟩ := ite_only H
  obtain ⟨A18, c19, hx20, hc21⟩ := c_hi (P := Try.prog) (L := [(3, .slice A0 l0.length c0), (6, .int .i64 (mnn (l0.length : Int) 30))]) (ty := 22) (E := (eI .u32)) (T := 23) (t := 22) (x := (Operand.tmp 3)) (y := (Operand.tmp 6)) (k := .i64) (by kernel_rfl) (by kernel_rfl) (hr0.old hw) (by kernel_rfl) (by kernel_rfl) hp17.1 hp17.2
  refine go_run hs (op := (Op.slice 22 (Operand.tmp 3) none (some (Operand.tmp 6)) none)) (ty := 22) (dst := some 7) (g := none) (by kernel_rfl) (by kernel_rfl) (by kernel_rfl) hx20 [7] (L' := [(7, .slice A18 (l0.take (mnn (l0.length : Int) 30 : Int).toNat).length c19)]) (by kernel_rfl) ?_
  clear hs; intro a hs
  refine go_pvs 5 6 [2] hs (L' := [(2, .slice A18 (l0.take (mnn (l0.length : Int) 30 : Int).toNat).length c19)]) (by kernel_rfl) ?_ rfl
  clear hs; intro a hs
  refine go_end (by kernel_rfl) ?_
  refine hK16 _ _ ?_
  refine wp_ret ?_
  refine ret1 (t := 2) (v := .slice A18 (l0.take (mnn (l0.length : Int) 30 : Int).toNat).length c19) hs (by kernel_rfl) (by kernel_rfl) ?_
  refine ⟨_, rfl, ?_⟩
  refine hKR14 _ _ ?_
  intro a hs1
  have hs : Slots a _ [(1, .int .u8 a1), (2, .int .i64 a2), (7, .bool t4), (20, .slice A9 ([] : List Int).length c10), (22, .slice A18 (l0.take (mnn (l0.length : Int) 30 : Int).toNat).length c19)] := hs1.keep [1, 2, 7, 20, 22] (by kernel_rfl)
  clear hs1
  obtain ⟨hp23, H⟩ := ite_only H
  have hsrc28 : Src Try.prog (eI .u32).sz 22 (.slice A18 (l0.take (mnn (l0.length : Int) 30 : Int).toNat).length c19) (l0.take (mnn (l0.length : Int) 30 : Int).toNat).length ((l0.take (mnn (l0.length : Int) 30 : Int).toNat).flatMap (eI .u32).enc) _ := (Src.of_rd (E := (eI .u32)) (e' := 23) (by kernel_rfl) (hc21 _ (hr0.old hw)))
  obtain ⟨A24, c25, wd26, hx27, hw⟩ := x_append (P := Try.prog) (L := [(1, .int .u8 a1), (2, .int .i64 a2), (7, .bool t4), (20, .slice A9 ([] : List Int).length c10), (22, .slice A18 (l0.take (mnn (l0.length : Int) 30 : Int).toNat).length c19)]) (t := 22) (tx := 22) (ty := 22) (x := (Operand.tmp 20)) (y := (Operand.tmp 22)) (z := .int .u32 0) (bytes := 4) (l2 := l0.take (mnn (l0.length : Int) 30 : Int).toNat) hw (by kernel_rfl) (by kernel_rfl) (by kernel_rfl) (by kernel_rfl) (by kernel_rfl) hsrc28 (by omega) (by omega)
  refine go_run hs (op := (Op.call { callee := (Callee.builtin Builtin.append), args := #[(Operand.tmp 20), (Operand.tmp 22)], argTypes := #[22, 22] })) (ty := 22) (dst := some 23) (g := none) (by kernel_rfl) (by kernel_rfl) (by kernel_rfl) hx27 [1, 2, 7, 23] (L' := [(1, .int .u8 a1), (2, .int .i64 a2), (7, .bool t4), (23, .slice A24 (([] : List Int) ++ (l0.take (mnn (l0.length : Int) 30 : Int).toNat)).length c25)]) (by kernel_rfl) ?_
  clear hs; intro a hs
  refine go_pvs 4 5 [1, 2, 7, 8] hs (L' := [(1, .int .u8 a1), (2, .int .i64 a2), (7, .bool t4), (8, .slice A24 (([] : List Int) ++ (l0.take (mnn (l0.length : Int) 30 : Int).toNat)).length c25)]) (by kernel_rfl) ?_ rfl
  clear hs; intro a hs
  refine go_end (by kernel_rfl) ?_
  refine hK8 _ _ ?_
  refine go_seq_k fun K29 hK29 => ?_
  refine go_seq_k fun K30 hK30 => ?_
  refine go_region ?_
  refine go_pvs 0 1 [1, 2, 7, 8, 9] hs (L' := [(1, .int .u8 a1), (2, .int .i64 a2), (7, .bool t4), (8, .slice A24 (([] : List Int) ++ (l0.take (mnn (l0.length : Int) 30 : Int).toNat)).length c25), (9, .int .i64 0)]) (by kernel_rfl) ?_ rfl
  clear hs; intro a hs
  refine go_end (by kernel_rfl) ?_
  refine hK30 _ _ ?_
  refine wp_block ?_
  obtain ⟨e31, hl31, HX31⟩ := bind_some H
  have hJ1 : ∀ (l44 : List Int) (a : Act) (w : World), Slots a 111 [(1, .int .u8 a1), (2, .int .i64 a2), (7, .bool t4), (8, .slice A24 l44.length c25)] → St [] w0 w [own 23 (eI .u32) A24 c25 l44] → rivetlaw08_ChainTaken.j1 a1 a2 t4 l44 = some r → K29 a w := by
    intro l44 a w hs hw H
    unfold rivetlaw08_ChainTaken.j1 at H
    refine hK29 _ _ ?_
    refine go_seq_k fun K45 hK45 => ?_
    refine go_region ?_
    refine go_pvs 0 4 [1, 2, 7, 8, 39, 42] hs (L' := [(1, .int .u8 a1), (2, .int .i64 a2), (7, .bool t4), (8, .slice A24 l44.length c25), (39, .slice A24 l44.length c25), (42, .int .i64 (w64 (a1.tmod 32)))]) (by kernel_rfl) ?_ rfl
    clear hs; intro a hs
    obtain ⟨⟨t47, t48, t49⟩, hx50, H⟩ := bind_some H
    refine go_call hs (op := (Op.call { callee := (Callee.value (Operand.func 24)), args := #[(Operand.tmp 39), (Operand.tmp 42)], argTypes := #[22, 3] })) (ty := 39) (dst := some 43) (g := none) (by kernel_rfl) (by kernel_rfl) (by kernel_rfl) (f := 24) (args := #[.slice A24 l44.length c25, .int .i64 (w64 (a1.tmod 32))]) (by kernel_rfl) (chain_Unpack.calls A24 c25 l44 (w64 (a1.tmod 32)) (t47, t48, t49) _ (Rd.of_own (hw.up 0)) hx50) ?_
    rintro e wd55 ⟨A51, c52, A53, c54, rfl, hw56⟩
    refine ⟨_, rfl, ?_⟩
    replace hw := hw.call hw56
    intro a hs1
    replace hs : Slots a 111 [(1, .int .u8 a1), (2, .int .i64 a2), (7, .bool t4), (8, .slice A24 l44.length c25), (43, .tuple #[.slice A51 t47.length c52, .slice A53 t48.length c54, .int .i64 t49])] := hs1.keep [1, 2, 7, 8, 43] (by kernel_rfl)
    clear hs1
    refine go_pvs 5 12 [1, 2, 7, 8, 10, 11, 12] hs (L' := [(1, .int .u8 a1), (2, .int .i64 a2), (7, .bool t4), (8, .slice A24 l44.length c25), (10, .slice A51 t47.length c52), (11, .slice A53 t48.length c54), (12, .int .i64 t49)]) (by kernel_rfl) ?_ rfl
    clear hs; intro a hs
    refine go_end (by kernel_rfl) ?_
    refine hK45 _ _ ?_
    refine go_seq_k fun K59 hK59 => ?_
    refine go_region ?_
    refine go_pvs 0 2 [1, 7, 8, 10, 11, 12, 48, 49] hs (L' := [(1, .int .u8 a1), (7, .bool t4), (8, .slice A24 l44.length c25), (10, .slice A51 t47.length c52), (11, .slice A53 t48.length c54), (12, .int .i64 t49), (48, .slice A24 l44.length c25), (49, .int .i64 a2)]) (by kernel_rfl) ?_ rfl
    clear hs; intro a hs
    obtain ⟨⟨t61, t62, t63⟩, hx64, H⟩ := bind_some H
    refine go_call hs (op := (Op.call { callee := (Callee.value (Operand.func 24)), args := #[(Operand.tmp 48), (Operand.tmp 49)], argTypes := #[22, 3] })) (ty := 39) (dst := some 50) (g := none) (by kernel_rfl) (by kernel_rfl) (by kernel_rfl) (f := 24) (args := #[.slice A24 l44.length c25, .int .i64 a2]) (by kernel_rfl) (chain_Unpack.calls A24 c25 l44 a2 (t61, t62, t63) _ (Rd.of_own (hw.up 2)) hx64) ?_
    rintro e wd69 ⟨A65, c66, A67, c68, rfl, hw70⟩
    refine ⟨_, rfl, ?_⟩
    replace hw := hw.call hw70
    intro a hs1
    replace hs : Slots a 111 [(1, .int .u8 a1), (7, .bool t4), (8, .slice A24 l44.length c25), (10, .slice A51 t47.length c52), (11, .slice A53 t48.length c54), (12, .int .i64 t49), (50, .tuple #[.slice A65 t61.length c66, .slice A67 t62.length c68, .int .i64 t63])] := hs1.keep [1, 7, 8, 10, 11, 12, 50] (by kernel_rfl)
    clear hs1
    refine go_pvs 3 10 [1, 7, 8, 10, 11, 12, 13, 14, 15] hs (L' := [(1, .int .u8 a1), (7, .bool t4), (8, .slice A24 l44.length c25), (10, .slice A51 t47.length c52), (11, .slice A53 t48.length c54), (12, .int .i64 t49), (13, .slice A65 t61.length c66), (14, .slice A67 t62.length c68), (15, .int .i64 t63)]) (by kernel_rfl) ?_ rfl
    clear hs; intro a hs
    refine go_end (by kernel_rfl) ?_
    refine hK59 _ _ ?_
    refine go_seq_k fun K73 hK73 => ?_
    have hJ3 : ∀ (a : Act) (w : World), Slots a 111 [(1, .int .u8 a1), (7, .bool t4), (8, .slice A24 l44.length c25), (10, .slice A51 t47.length c52), (11, .slice A53 t48.length c54), (12, .int .i64 t49)] → St [] w0 w [own 23 (eI .u32) A65 c66 t61, own 3 (eI .i64) A67 c68 t62, own 23 (eI .u32) A51 c52 t47, own 3 (eI .i64) A53 c54 t48, own 23 (eI .u32) A24 c25 l44] → rivetlaw08_ChainTaken.j3 t49 t47 t48 t4 a1 l44 = some r → K73 a w := by
      intro a w hs hw H
      unfold rivetlaw08_ChainTaken.j3 at H
      refine hK73 _ _ ?_
      refine go_seq_k fun K82 hK82 => ?_
      refine go_seq_k fun K83 hK83 => ?_
      refine go_region ?_
      refine go_pvs 0 2 [1, 7, 8, 10, 11, 12, 71] hs (L' := [(1, .int .u8 a1), (7, .bool t4), (8, .slice A24 l44.length c25), (10, .slice A51 t47.length c52), (11, .slice A53 t48.length c54), (12, .int .i64 t49), (71, .bool (t49 != 0))]) (by kernel_rfl) ?_ rfl
      clear hs; intro a hs
      refine go_end (by kernel_rfl) ?_
      refine hK83 _ _ ?_
      refine go_cond hs (t49 != 0) (by kernel_rfl) (fun hc => ?_) (fun hc => ?_)
      · replace H := ite_f H (bne_iff_ne.1 hc)
        have hb84 := hc
        rw [hb84] at hs
        refine go_seq_k fun K85 hK85 => ?_
        have hJ4 : ∀ (v89 : Bool) (a : Act) (w : World), Slots a 111 [(6, .bool v89)] → St [] w0 w [own 23 (eI .u32) A65 c66 t61, own 3 (eI .i64) A67 c68 t62, own 23 (eI .u32) A51 c52 t47, own 3 (eI .i64) A53 c54 t48, own 23 (eI .u32) A24 c25 l44] → rivetlaw08_ChainTaken.j4 v89 = some r → K85 a w := by
          intro v89 a w hs hw H
          unfold rivetlaw08_ChainTaken.j4 at H
          refine hK85 _ _ ?_
          refine wp_ret ?_
          refine th_ret ?_
          obtain rfl := Option.some.inj H
          refine ret1 (t := 6) (v := .bool v89) hs (by kernel_rfl) (by kernel_rfl) ?_
          exact ⟨rfl, hw.only 0⟩
        refine go_region ?_
        refine go_pvs 0 2 [10, 11, 12, 73] hs (L' := [(10, .slice A51 t47.length c52), (11, .slice A53 t48.length c54), (12, .int .i64 t49), (73, .bool t4)]) (by kernel_rfl) ?_ rfl
        clear hs; intro a hs
        cases hb86 : t4
        · replace H := ite_f H (ff hb86)
          rw [hb86] at hs
          refine go_pvs 2 16 [6] hs (L' := [(6, .bool false)]) (by kernel_rfl) ?_ rfl
          clear hs; intro a hs
          refine go_end (by kernel_rfl) ?_
          replace hw := hw.up 4
          replace hw := hw.up 4
          replace hw := hw.up 4
          replace hw := hw.up 4
          replace hw := hw.up 4
          replace hw := hw.only 5
          exact hJ4 false _ _ (hs.keep [6] (by kernel_rfl)) hw H
        · replace H := ite_t H hb86
          rw [hb86] at hs
          refine go_pvs 2 7 [11, 12, 78] hs (L' := [(11, .slice A53 t48.length c54), (12, .int .i64 t49), (78, .bool ((t47.length : Int) == 0))]) (by kernel_rfl) ?_ rfl
          clear hs; intro a hs
          cases hb87 : ((t47.length : Int) == 0)
          · replace H := ite_f H (beq_eq_false_iff_ne.1 hb87)
            rw [hb87] at hs
            refine go_pvs 7 16 [6] hs (L' := [(6, .bool false)]) (by kernel_rfl) ?_ rfl
            clear hs; intro a hs
            refine go_end (by kernel_rfl) ?_
            replace hw := hw.up 4
            replace hw := hw.up 4
            replace hw := hw.up 4
            replace hw := hw.up 4
            replace hw := hw.up 4
            replace hw := hw.only 5
            exact hJ4 false _ _ (hs.keep [6] (by kernel_rfl)) hw H
          · replace H := ite_t H (beq_iff_eq.1 hb87)
            rw [hb87] at hs
            refine go_pvs 7 12 [12, 83] hs (L' := [(12, .int .i64 t49), (83, .bool ((t48.length : Int) == 0))]) (by kernel_rfl) ?_ rfl
            clear hs; intro a hs
            cases hb88 : ((t48.length : Int) == 0)
            · replace H := ite_f H (beq_eq_false_iff_ne.1 hb88)
              rw [hb88] at hs
              refine go_pvs 12 16 [6] hs (L' := [(6, .bool false)]) (by kernel_rfl) ?_ rfl
              clear hs; intro a hs
              refine go_end (by kernel_rfl) ?_
              replace hw := hw.up 4
              replace hw := hw.up 4
              replace hw := hw.up 4
              replace hw := hw.up 4
              replace hw := hw.up 4
              replace hw := hw.only 5
              exact hJ4 false _ _ (hs.keep [6] (by kernel_rfl)) hw H
            · replace H := ite_t H (beq_iff_eq.1 hb88)
              rw [hb88] at hs
              refine go_pvs 12 16 [6] hs (L' := [(6, .bool (t49 == 10))]) (by kernel_rfl) ?_ rfl
              clear hs; intro a hs
              refine go_end (by kernel_rfl) ?_
              replace hw := hw.up 4
              replace hw := hw.up 4
              replace hw := hw.up 4
              replace hw := hw.up 4
              replace hw := hw.up 4
              replace hw := hw.only 5
              exact hJ4 (t49 == 10) _ _ (hs.keep [6] (by kernel_rfl)) hw H
      · replace H := ite_t H (bne_eq_false_iff_eq.1 hc)
        have hb90 := hc
        rw [hb90] at hs
        refine wp_skip ?_
        refine hK82 _ _ ?_
        refine go_seq_k fun K91 hK91 => ?_
        refine go_region ?_
        refine go_pvs 0 2 [1, 7, 8, 88, 89] hs (L' := [(1, .int .u8 a1), (7, .bool t4), (8, .slice A24 l44.length c25), (88, .slice A51 t47.length c52), (89, .slice A53 t48.length c54)]) (by kernel_rfl) ?_ rfl
        clear hs; intro a hs
        obtain ⟨⟨t93, t94, t95⟩, hx96, H⟩ := bind_some H
        refine go_call hs (op := (Op.call { callee := (Callee.value (Operand.func 20)), args := #[(Operand.tmp 88), (Operand.tmp 89)], argTypes := #[22, 35] })) (ty := 36) (dst := some 90) (g := none) (by kernel_rfl) (by kernel_rfl) (by kernel_rfl) (f := 20) (args := #[.slice A51 t47.length c52, .slice A53 t48.length c54]) (by kernel_rfl) (chain_Pack.calls A51 c52 t47 A53 c54 t48 (t93, t94, t95) _ (Rd.of_own (hw.up 2)) (Rd.of_own (hw.up 3)) hx96) ?_
        rintro e wd99 ⟨A97, c98, rfl, hw100⟩
        refine ⟨_, rfl, ?_⟩
        replace hw := hw.call hw100
        intro a hs1
        replace hs : Slots a 111 [(1, .int .u8 a1), (7, .bool t4), (8, .slice A24 l44.length c25), (90, .tuple #[.slice A97 t93.length c98, .int .i64 t94, .int .i64 t95])] := hs1.keep [1, 7, 8, 90] (by kernel_rfl)
        clear hs1
        refine go_pvs 3 10 [1, 7, 8, 16, 17, 18] hs (L' := [(1, .int .u8 a1), (7, .bool t4), (8, .slice A24 l44.length c25), (16, .slice A97 t93.length c98), (17, .int .i64 t94), (18, .int .i64 t95)]) (by kernel_rfl) ?_ rfl
        clear hs; intro a hs
        refine go_end (by kernel_rfl) ?_
        refine hK91 _ _ ?_
        refine go_seq_k fun K102 hK102 => ?_
        have hJ5 : ∀ (v111 : Bool) (a : Act) (w : World), Slots a 111 [(6, .bool v111)] → St [] w0 w [own 23 (eI .u32) A97 c98 t93, own 23 (eI .u32) A65 c66 t61, own 3 (eI .i64) A67 c68 t62, own 23 (eI .u32) A51 c52 t47, own 3 (eI .i64) A53 c54 t48, own 23 (eI .u32) A24 c25 l44] → rivetlaw08_ChainTaken.j5 v111 = some r → K102 a w := by
          intro v111 a w hs hw H
          unfold rivetlaw08_ChainTaken.j5 at H
          refine hK102 _ _ ?_
          refine wp_ret ?_
          obtain rfl := Option.some.inj H
          refine ret1 (t := 6) (v := .bool v111) hs (by kernel_rfl) (by kernel_rfl) ?_
          exact ⟨rfl, hw.only 0⟩
        refine go_region ?_
        refine go_pvs 0 2 [1, 8, 16, 17, 18, 95] hs (L' := [(1, .int .u8 a1), (8, .slice A24 l44.length c25), (16, .slice A97 t93.length c98), (17, .int .i64 t94), (18, .int .i64 t95), (95, .bool t4)]) (by kernel_rfl) ?_ rfl
        clear hs; intro a hs
        cases hb103 : t4
        · replace H := ite_f H (ff hb103)
          rw [hb103] at hs
          refine go_pvs 2 18 [6] hs (L' := [(6, .bool false)]) (by kernel_rfl) ?_ rfl
          clear hs; intro a hs
          refine go_end (by kernel_rfl) ?_
          replace hw := hw.up 5
          replace hw := hw.up 5
          replace hw := hw.up 5
          replace hw := hw.up 5
          replace hw := hw.up 5
          replace hw := hw.up 5
          replace hw := hw.only 6
          exact hJ5 false _ _ (hs.keep [6] (by kernel_rfl)) hw H
        · replace H := ite_t H hb103
          rw [hb103] at hs
          refine go_pvs 2 6 [1, 8, 16, 17, 99] hs (L' := [(1, .int .u8 a1), (8, .slice A24 l44.length c25), (16, .slice A97 t93.length c98), (17, .int .i64 t94), (99, .bool (t95 == 0))]) (by kernel_rfl) ?_ rfl
          clear hs; intro a hs
          cases hb104 : (t95 == 0)
          · replace H := ite_f H (beq_eq_false_iff_ne.1 hb104)
            rw [hb104] at hs
            refine go_pvs 6 18 [6] hs (L' := [(6, .bool false)]) (by kernel_rfl) ?_ rfl
            clear hs; intro a hs
            refine go_end (by kernel_rfl) ?_
            replace hw := hw.up 5
            replace hw := hw.up 5
            replace hw := hw.up 5
            replace hw := hw.up 5
            replace hw := hw.up 5
            replace hw := hw.up 5
            replace hw := hw.only 6
            exact hJ5 false _ _ (hs.keep [6] (by kernel_rfl)) hw H
          · replace H := ite_t H (beq_iff_eq.1 hb104)
            rw [hb104] at hs
            refine go_pvs 6 13 [8, 16, 106] hs (L' := [(8, .slice A24 l44.length c25), (16, .slice A97 t93.length c98), (106, .bool (t94 == (w64 (a1.tmod 32))))]) (by kernel_rfl) ?_ rfl
            clear hs; intro a hs
            cases hb105 : (t94 == (w64 (a1.tmod 32)))
            · replace H := ite_f H (beq_eq_false_iff_ne.1 hb105)
              rw [hb105] at hs
              refine go_pvs 13 18 [6] hs (L' := [(6, .bool false)]) (by kernel_rfl) ?_ rfl
              clear hs; intro a hs
              refine go_end (by kernel_rfl) ?_
              replace hw := hw.up 5
              replace hw := hw.up 5
              replace hw := hw.up 5
              replace hw := hw.up 5
              replace hw := hw.up 5
              replace hw := hw.up 5
              replace hw := hw.only 6
              exact hJ5 false _ _ (hs.keep [6] (by kernel_rfl)) hw H
            · replace H := ite_t H (beq_iff_eq.1 hb105)
              rw [hb105] at hs
              refine go_pvs 13 15 [106, 107, 108] hs (L' := [(106, .bool true), (107, .slice A97 t93.length c98), (108, .slice A24 l44.length c25)]) (by kernel_rfl) ?_ rfl
              clear hs; intro a hs
              obtain ⟨t107, hx108, H⟩ := bind_some H
              refine go_call hs (op := (Op.call { callee := (Callee.value (Operand.func 18)), args := #[(Operand.tmp 107), (Operand.tmp 108)], argTypes := #[22, 22] })) (ty := 4) (dst := some 109) (g := some (12, true)) (by kernel_rfl) (by kernel_rfl) (by kernel_rfl) (f := 18) (args := #[.slice A97 t93.length c98, .slice A24 l44.length c25]) (by kernel_rfl) (rivetref05_Same.calls A97 c98 t93 A24 c25 l44 t107 _ (Rd.of_own (hw.up 0)) (Rd.of_own (hw.up 5)) hx108) ?_
              rintro e wd109 ⟨rfl, hw110⟩
              refine ⟨_, rfl, ?_⟩
              replace hw := hw.call hw110
              intro a hs1
              replace hs : Slots a 111 [(106, .bool true), (109, .bool t107)] := hs1.keep [106, 109] (by kernel_rfl)
              clear hs1
              refine go_pvs 16 18 [6] hs (L' := [(6, .bool t107)]) (by kernel_rfl) ?_ rfl
              clear hs; intro a hs
              refine go_end (by kernel_rfl) ?_
              replace hw := hw.up 5
              replace hw := hw.up 5
              replace hw := hw.up 5
              replace hw := hw.up 5
              replace hw := hw.up 5
              replace hw := hw.up 5
              replace hw := hw.only 6
              exact hJ5 t107 _ _ (hs.keep [6] (by kernel_rfl)) hw H
    refine go_seq_k fun K74 hK74 => ?_
    have hJ2 : ∀ (v78 : Bool) (a : Act) (w : World), Slots a 111 [(1, .int .u8 a1), (7, .bool t4), (8, .slice A24 l44.length c25), (10, .slice A51 t47.length c52), (11, .slice A53 t48.length c54), (12, .int .i64 t49), (69, .bool v78)] → St [] w0 w [own 23 (eI .u32) A65 c66 t61, own 3 (eI .i64) A67 c68 t62, own 23 (eI .u32) A51 c52 t47, own 3 (eI .i64) A53 c54 t48, own 23 (eI .u32) A24 c25 l44] → rivetlaw08_ChainTaken.j2 t49 t47 t48 t4 a1 l44 v78 = some r → K74 a w := by
      intro v78 a w hs hw H
      unfold rivetlaw08_ChainTaken.j2 at H
      refine hK74 _ _ ?_
      refine go_cond hs v78 (by kernel_rfl) (fun hc => ?_) (fun hc => ?_)
      · replace H := ite_t H hc
        have hb79 := hc
        rw [hb79] at hs
        refine go_seq_k fun K80 hK80 => ?_
        refine go_region ?_
        refine go_pvs 0 1 [6] hs (L' := [(6, .bool false)]) (by kernel_rfl) ?_ rfl
        clear hs; intro a hs
        refine go_end (by kernel_rfl) ?_
        refine hK80 _ _ ?_
        refine wp_ret ?_
        refine th_ret ?_
        obtain rfl := Option.some.inj H
        refine ret1 (t := 6) (v := .bool false) hs (by kernel_rfl) (by kernel_rfl) ?_
        exact ⟨rfl, hw.only 0⟩
      · replace H := ite_f H (ff hc)
        have hb81 := hc
        rw [hb81] at hs
        refine wp_skip ?_
        replace hw := hw.up 4
        replace hw := hw.up 4
        replace hw := hw.up 4
        replace hw := hw.up 4
        replace hw := hw.up 4
        replace hw := hw.only 5
        exact hJ3 _ _ (hs.keep [1, 7, 8, 10, 11, 12] (by kernel_rfl)) hw H
    refine go_region ?_
    refine go_pvs 0 3 [1, 7, 8, 10, 11, 12, 13, 14, 15, 56] hs (L' := [(1, .int .u8 a1), (7, .bool t4), (8, .slice A24 l44.length c25), (10, .slice A51 t47.length c52), (11, .slice A53 t48.length c54), (12, .int .i64 t49), (13, .slice A65 t61.length c66), (14, .slice A67 t62.length c68), (15, .int .i64 t63), (56, .bool (t63 != 0))]) (by kernel_rfl) ?_ rfl
    clear hs; intro a hs
    cases hb75 : (t63 != 0)
    · replace H := ite_t H (bne_eq_false_iff_eq.1 hb75)
      rw [hb75] at hs
      refine go_pvs 3 16 [1, 7, 8, 10, 11, 12, 69] hs (L' := [(1, .int .u8 a1), (7, .bool t4), (8, .slice A24 l44.length c25), (10, .slice A51 t47.length c52), (11, .slice A53 t48.length c54), (12, .int .i64 t49), (69, .bool false)]) (by kernel_rfl) ?_ rfl
      clear hs; intro a hs
      refine go_end (by kernel_rfl) ?_
      replace hw := hw.up 4
      replace hw := hw.up 4
      replace hw := hw.up 4
      replace hw := hw.up 4
      replace hw := hw.up 4
      replace hw := hw.only 5
      exact hJ2 false _ _ (hs.keep [1, 7, 8, 10, 11, 12, 69] (by kernel_rfl)) hw H
    · replace H := ite_f H (bne_iff_ne.1 hb75)
      rw [hb75] at hs
      refine go_pvs 3 7 [1, 7, 8, 10, 11, 12, 14, 15, 56, 60] hs (L' := [(1, .int .u8 a1), (7, .bool t4), (8, .slice A24 l44.length c25), (10, .slice A51 t47.length c52), (11, .slice A53 t48.length c54), (12, .int .i64 t49), (14, .slice A67 t62.length c68), (15, .int .i64 t63), (56, .bool true), (60, .bool ((t61.length : Int) != 0))]) (by kernel_rfl) ?_ rfl
      clear hs; intro a hs
      cases hb76 : ((t61.length : Int) != 0)
      · replace H := ite_t H (bne_eq_false_iff_eq.1 hb76)
        rw [hb76] at hs
        refine go_pvs 7 12 [1, 7, 8, 10, 11, 12, 15, 56, 65] hs (L' := [(1, .int .u8 a1), (7, .bool t4), (8, .slice A24 l44.length c25), (10, .slice A51 t47.length c52), (11, .slice A53 t48.length c54), (12, .int .i64 t49), (15, .int .i64 t63), (56, .bool true), (65, .bool ((t62.length : Int) != 0))]) (by kernel_rfl) ?_ rfl
        clear hs; intro a hs
        cases hb77 : ((t62.length : Int) != 0)
        · replace H := ite_t H (bne_eq_false_iff_eq.1 hb77)
          rw [hb77] at hs
          refine go_pvs 12 16 [1, 7, 8, 10, 11, 12, 69] hs (L' := [(1, .int .u8 a1), (7, .bool t4), (8, .slice A24 l44.length c25), (10, .slice A51 t47.length c52), (11, .slice A53 t48.length c54), (12, .int .i64 t49), (69, .bool (t63 != 10))]) (by kernel_rfl) ?_ rfl
          clear hs; intro a hs
          refine go_end (by kernel_rfl) ?_
          replace hw := hw.up 4
          replace hw := hw.up 4
          replace hw := hw.up 4
          replace hw := hw.up 4
          replace hw := hw.up 4
          replace hw := hw.only 5
          exact hJ2 (t63 != 10) _ _ (hs.keep [1, 7, 8, 10, 11, 12, 69] (by kernel_rfl)) hw H
        · replace H := ite_f H (bne_iff_ne.1 hb77)
          rw [hb77] at hs
          refine go_pvs 12 16 [1, 7, 8, 10, 11, 12, 69] hs (L' := [(1, .int .u8 a1), (7, .bool t4), (8, .slice A24 l44.length c25), (10, .slice A51 t47.length c52), (11, .slice A53 t48.length c54), (12, .int .i64 t49), (69, .bool true)]) (by kernel_rfl) ?_ rfl
          clear hs; intro a hs
          refine go_end (by kernel_rfl) ?_
          replace hw := hw.up 4
          replace hw := hw.up 4
          replace hw := hw.up 4
          replace hw := hw.up 4
          replace hw := hw.up 4
          replace hw := hw.only 5
          exact hJ2 true _ _ (hs.keep [1, 7, 8, 10, 11, 12, 69] (by kernel_rfl)) hw H
      · replace H := ite_f H (bne_iff_ne.1 hb76)
        rw [hb76] at hs
        refine go_pvs 7 16 [1, 7, 8, 10, 11, 12, 69] hs (L' := [(1, .int .u8 a1), (7, .bool t4), (8, .slice A24 l44.length c25), (10, .slice A51 t47.length c52), (11, .slice A53 t48.length c54), (12, .int .i64 t49), (69, .bool true)]) (by kernel_rfl) ?_ rfl
        clear hs; intro a hs
        refine go_end (by kernel_rfl) ?_
        replace hw := hw.up 4
        replace hw := hw.up 4
        replace hw := hw.up 4
        replace hw := hw.up 4
        replace hw := hw.up 4
        replace hw := hw.only 5
        exact hJ2 true _ _ (hs.keep [1, 7, 8, 10, 11, 12, 69] (by kernel_rfl)) hw H
  clear H
  refine go_loop (σ := (List Int) × Int) (fun σ a w => Slots a 111 [(1, .int .u8 a1), (2, .int .i64 a2), (7, .bool t4), (8, .slice A24 σ.1.length c25), (9, .int .i64 σ.2)] ∧ St [] w0 w [own 23 (eI .u32) A24 c25 σ.1]) hl31 (by exact ⟨hs.keep [1, 2, 7, 8, 9] (by kernel_rfl), hw⟩) ?_
  rintro ⟨l32, v33⟩ a w ⟨hs, hw⟩ o H hr31
  replace hs : Slots a 111 [(1, .int .u8 a1), (2, .int .i64 a2), (7, .bool t4), (8, .slice A24 l32.length c25), (9, .int .i64 v33)] := hs
  replace hw : St [] w0 w [own 23 (eI .u32) A24 c25 l32] := hw
  replace H : rivetlaw08_ChainTaken.b31 l32 v33 = some o := H
  unfold rivetlaw08_ChainTaken.b31 at H
  refine go_seq_k fun K34 hK34 => ?_
  refine go_seq_k fun K35 hK35 => ?_
  refine go_region ?_
  refine go_pvs 0 4 [1, 2, 7, 8, 9, 27] hs (L' := [(1, .int .u8 a1), (2, .int .i64 a2), (7, .bool t4), (8, .slice A24 l32.length c25), (9, .int .i64 v33), (27, .bool (decide (v33 < (l32.length : Int))))]) (by kernel_rfl) ?_ rfl
  clear hs; intro a hs
  refine go_end (by kernel_rfl) ?_
  refine hK35 _ _ ?_
  refine go_cond hs (decide (v33 < (l32.length : Int))) (by kernel_rfl) (fun hc => ?_) (fun hc => ?_)
  · replace H := ite_t H (of_decide_eq_true hc)
    have hb36 := hc
    rw [hb36] at hs
    refine wp_skip ?_
    refine hK34 _ _ ?_
    refine go_seq_k fun K37 hK37 => ?_
    refine wp_block ?_
    refine go_region ?_
    refine go_pvs 0 4 [1, 2, 7, 8, 9, 30, 31, 32, 33] hs (L' := [(1, .int .u8 a1), (2, .int .i64 a2), (7, .bool t4), (8, .slice A24 l32.length c25), (9, .int .i64 v33), (30, .slice A24 l32.length c25), (31, .int .i64 v33), (32, .slice A24 l32.length c25), (33, .int .i64 v33)]) (by kernel_rfl) ?_ rfl
    clear hs; intro a hs
    obtain ⟨hp38, H⟩ := ite_only H
    obtain ⟨ad39, rfl⟩ := (Rd.of_own (hw.up 0)).some hp38.1 hp38.2
    refine go_run hs (op := (Op.indexAddr 22 (Operand.tmp 32) (Operand.tmp 33))) (ty := 0) (dst := some 34) (g := none) (by kernel_rfl) (by kernel_rfl) (by kernel_rfl) (x_idx (T := 23) (sz := 1) (a := ad39) (n := l32.length) (cap := c25) (k := .i64) (i := v33) (by kernel_rfl) (by kernel_rfl) (by kernel_rfl) (by kernel_rfl) hp38.1 hp38.2) [1, 2, 7, 8, 9, 30, 31, 34] (L' := [(1, .int .u8 a1), (2, .int .i64 a2), (7, .bool t4), (8, .slice (some ad39) l32.length c25), (9, .int .i64 v33), (30, .slice (some ad39) l32.length c25), (31, .int .i64 v33), (34, .pointer (some (ad39.add (v33.toNat * 1))))]) (by kernel_rfl) ?_
    clear hs; intro a hs
    refine go_run hs (op := (Op.load 23 (Operand.tmp 34))) (ty := 23) (dst := some 35) (g := none) (by kernel_rfl) (by kernel_rfl) (by kernel_rfl) (x_ld (E := (eI .u32)) (off := 0) (p := ad39.add (v33.toNat * 1)) (v := .int .u32 (ix (eI .u32).d l32 v33)) (Rd.of_own (hw.up 0)) hp38.1 hp38.2 (by kernel_rfl) rfl (by kernel_rfl) (by kernel_rfl)) [1, 2, 7, 8, 9, 30, 31, 35] (L' := [(1, .int .u8 a1), (2, .int .i64 a2), (7, .bool t4), (8, .slice (some ad39) l32.length c25), (9, .int .i64 v33), (30, .slice (some ad39) l32.length c25), (31, .int .i64 v33), (35, .int .u32 (ix (eI .u32).d l32 v33))]) (by kernel_rfl) ?_
    clear hs; intro a hs
    refine go_pvs 6 7 [1, 2, 7, 8, 9, 30, 31, 36] hs (L' := [(1, .int .u8 a1), (2, .int .i64 a2), (7, .bool t4), (8, .slice (some ad39) l32.length c25), (9, .int .i64 v33), (30, .slice (some ad39) l32.length c25), (31, .int .i64 v33), (36, .int .u32 (bandn .u32 (ix (eI .u32).d l32 v33) 65504))]) (by kernel_rfl) ?_ rfl
    clear hs; intro a hs
    obtain ⟨hp40, H⟩ := ite_only H
    refine go_run hs (op := (Op.indexAddr 22 (Operand.tmp 30) (Operand.tmp 31))) (ty := 0) (dst := some 37) (g := none) (by kernel_rfl) (by kernel_rfl) (by kernel_rfl) (x_idx (T := 23) (sz := 1) (a := ad39) (n := l32.length) (cap := c25) (k := .i64) (i := v33) (by kernel_rfl) (by kernel_rfl) (by kernel_rfl) (by kernel_rfl) hp40.1 hp40.2) [1, 2, 7, 8, 9, 36, 37] (L' := [(1, .int .u8 a1), (2, .int .i64 a2), (7, .bool t4), (8, .slice (some ad39) l32.length c25), (9, .int .i64 v33), (36, .int .u32 (bandn .u32 (ix (eI .u32).d l32 v33) 65504)), (37, .pointer (some (ad39.add (v33.toNat * 1))))]) (by kernel_rfl) ?_
    clear hs; intro a hs
    obtain ⟨wd41, hx42, hw⟩ := x_put (P := Try.prog) (L := [(1, .int .u8 a1), (2, .int .i64 a2), (7, .bool t4), (8, .slice (some ad39) l32.length c25), (9, .int .i64 v33), (36, .int .u32 (bandn .u32 (ix (eI .u32).d l32 v33) 65504)), (37, .pointer (some (ad39.add (v33.toNat * 1))))]) (ty := 0) (t := 23) (x := (Operand.tmp 37)) (y := (Operand.tmp 36)) (off := 0) (p := ad39.add (v33.toNat * 1)) (v := .int .u32 (bandn .u32 (ix (eI .u32).d l32 v33) 65504)) (vs := [.int .u32 (bandn .u32 (ix (eI .u32).d l32 v33) 65504)]) (i := v33) (e' := bandn .u32 (ix (eI .u32).d l32 v33) 65504) hw rfl hp40.1 hp40.2 (by kernel_rfl) rfl (by kernel_rfl) rfl (by kernel_rfl) (Nat.le_of_ble_eq_true rfl) (by simp [Value.oneCell']) (by kernel_rfl)
    refine go_unit hs (op := (Op.store 23 (Operand.tmp 37) (Operand.tmp 36))) (ty := 0) (dst := none) (g := none) (by kernel_rfl) (by kernel_rfl) (by kernel_rfl) hx42 [1, 2, 7, 8, 9] (L' := [(1, .int .u8 a1), (2, .int .i64 a2), (7, .bool t4), (8, .slice (some ad39) l32.length c25), (9, .int .i64 v33)]) (by kernel_rfl) ?_
    clear hs; intro a hs
    replace hs : Slots a 111 [(1, .int .u8 a1), (2, .int .i64 a2), (7, .bool t4), (8, .slice (some ad39) (l32.set (v33 : Int).toNat (bandn .u32 (ix (eI .u32).d l32 v33) 65504)).length c25), (9, .int .i64 v33)] := by rw [List.length_set]; exact hs
    refine go_end (by kernel_rfl) ?_
    refine ib_norm ?_
    refine hK37 _ _ ?_
    refine go_region ?_
    refine go_pvs 0 3 [1, 2, 7, 8, 9] hs (L' := [(1, .int .u8 a1), (2, .int .i64 a2), (7, .bool t4), (8, .slice (some ad39) (l32.set (v33 : Int).toNat (bandn .u32 (ix (eI .u32).d l32 v33) 65504)).length c25), (9, .int .i64 (w64 (v33 + 1)))]) (by kernel_rfl) ?_ rfl
    clear hs; intro a hs
    refine go_end (by kernel_rfl) ?_
    replace hw := hw.only 1
    exact round_end (l32.set (v33 : Int).toNat (bandn .u32 (ix (eI .u32).d l32 v33) 65504), w64 (v33 + 1)) (Option.some.inj H).symm ⟨hs.keep [1, 2, 7, 8, 9] (by kernel_rfl), hw⟩
  · replace H := ite_f H (of_decide_eq_false hc)
    have hb43 := hc
    rw [hb43] at hs
    refine wp_exit ?_
    refine th_exit ?_
    refine th_exit ?_
    refine in_block ?_
    replace hw := hw.only 1
    rw [← hr31 _ (Option.some.inj H).symm] at HX31
    exact hJ1 l32 _ _ (hs.keep [1, 2, 7, 8] (by kernel_rfl)) hw HX31

end Go.Proofs.Ytpbfjcpndmmgoaa.T08
