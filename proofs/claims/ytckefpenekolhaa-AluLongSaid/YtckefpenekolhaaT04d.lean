/- YtckefpenekolhaaT04: Go functions told as plain ones, each with a proof that its call comes to what is told, part 4. Condition of each: that the plain function comes to a value. -/
import Derived.Test.YtckefpenekolhaaT04c
namespace Go.Proofs.Ytckefpenekolhaa.T04
open Go Go.RowKit Go.Proofs.Ytckefpenekolhaa.E
set_option linter.unusedVariables false
set_option linter.unusedSimpArgs false

/-! rivet/rivetref01.signed: function 52 -/
noncomputable def rivetref01_signed.j1 (v7 : Int) : Option Int := some v7
noncomputable def rivetref01_signed (a0 : Int) : Option Int := (if (w64 a0) ≥ 2147483648 then rivetref01_signed.j1 (w64 ((w64 a0) - 4294967296)) else rivetref01_signed.j1 (w64 a0))
set_option maxRecDepth 100000 in
set_option maxHeartbeats 4000000 in
theorem rivetref01_signed.calls (a0 : Int) (r : Int) (w0 : World) (H : rivetref01_signed a0 = some r) :
    Calls Try.prog 52 #[.int .u32 a0] w0 fun e w' => e = .returned (.int .i64 r) ∧ St [] w0 w' [] := by
 have hw : St [] w0 w0 [] := St.nil w0
 unfold rivetref01_signed at H
 refine go_fn Try.func52 rfl 11 Try.ntmps52 [(0, .int .u32 a0)] (by kernel_rfl) rfl ?_
 intro a hs
 refine go_seq_k fun K1 hK1 => ?_
 refine go_region ?_
 refine go_pvs 0 1 [0] hs (L' := [(0, .int .u32 a0)]) (by kernel_rfl) ?_ rfl
 clear hs; intro a hs
 refine go_end (by kernel_rfl) ?_
 refine hK1 _ _ ?_
 refine go_seq_k fun K2 hK2 => ?_
 refine go_region ?_
 refine go_pvs 0 3 [3] hs (L' := [(3, .int .i64 (w64 a0))]) (by kernel_rfl) ?_ rfl
 clear hs; intro a hs
 refine go_end (by kernel_rfl) ?_
 refine hK2 _ _ ?_
 refine go_seq_k fun K3 hK3 => ?_
 have hJ1 : ∀ (v7 : Int) (a : Act) (w : World), Slots a 11 [(3, .int .i64 v7)] → St [] w0 w [] → rivetref01_signed.j1 v7 = some r → K3 a w := by
  intro v7 a w hs hw H
  unfold rivetref01_signed.j1 at H
  refine hK3 _ _ ?_
  refine go_seq_k fun K8 hK8 => ?_
  refine go_region ?_
  refine go_pvs 0 2 [2] hs (L' := [(2, .int .i64 v7)]) (by kernel_rfl) ?_ rfl
  clear hs; intro a hs
  refine go_end (by kernel_rfl) ?_
  refine hK8 _ _ ?_
  refine wp_ret ?_
  obtain rfl := Option.some.inj H
  refine ret1 (t := 2) (v := .int .i64 v7) hs (by kernel_rfl) (by kernel_rfl) ?_
  exact ⟨rfl, hw.only 0⟩
 refine go_seq_k fun K4 hK4 => ?_
 refine go_region ?_
 refine go_pvs 0 2 [3, 7] hs (L' := [(3, .int .i64 (w64 a0)), (7, .bool (decide ((w64 a0) ≥ 2147483648)))]) (by kernel_rfl) ?_ rfl
 clear hs; intro a hs
 refine go_end (by kernel_rfl) ?_
 refine hK4 _ _ ?_
 refine go_cond hs (decide ((w64 a0) ≥ 2147483648)) (by kernel_rfl) (fun hc => ?_) (fun hc => ?_)
 ·replace H := ite_t H (of_decide_eq_true hc)
  have hb5 := hc
  rw [hb5] at hs
  refine go_region ?_
  refine go_pvs 0 3 [3] hs (L' := [(3, .int .i64 (w64 ((w64 a0) - 4294967296)))]) (by kernel_rfl) ?_ rfl
  clear hs; intro a hs
  refine go_end (by kernel_rfl) ?_
  replace hw := hw.only 0
  exact hJ1 (w64 ((w64 a0) - 4294967296)) _ _ (hs.keep [3] (by kernel_rfl)) hw H
 ·replace H := ite_f H (of_decide_eq_false hc)
  have hb6 := hc
  rw [hb6] at hs
  refine wp_skip ?_
  replace hw := hw.only 0
  exact hJ1 (w64 a0) _ _ (hs.keep [3] (by kernel_rfl)) hw H

/-! rivet/rivetref01.Add: function 23 -/
noncomputable def rivetref01_Add (a0 : Int) (a1 : Int) (a2 : Bool) : Option (Int × Bool × Bool) := ((rivetref01_one a2).bind fun t4 => (((rivetref01_signed a0).bind fun t10 => (((rivetref01_signed a1).bind fun t15 => (((rivetref01_one a2).bind fun t20 => (((rivetref01_out (w64 ((w64 (t10 + t15)) + t20))).bind fun t25 => (some (wu32 ((w64 ((w64 ((w64 a0) + (w64 a1))) + t4)).tmod 4294967296), decide ((w64 ((w64 ((w64 a0) + (w64 a1))) + t4)) ≥ 4294967296), t25)))))))))))
set_option maxRecDepth 100000 in
set_option maxHeartbeats 4000000 in
theorem rivetref01_Add.calls (a0 : Int) (a1 : Int) (a2 : Bool) (r : Int × Bool × Bool) (w0 : World) (H : rivetref01_Add a0 a1 a2 = some r) :
    Calls Try.prog 23 #[.int .u32 a0, .int .u32 a1, .bool a2] w0 fun e w' => e = .returned (.tuple #[.int .u32 r.1, .bool r.2.1, .bool r.2.2]) ∧ St [] w0 w' [] := by
 have hw : St [] w0 w0 [] := St.nil w0
 unfold rivetref01_Add at H
 refine go_fn Try.func23 rfl 32 Try.ntmps23 [(0, .int .u32 a0), (1, .int .u32 a1), (2, .bool a2)] (by kernel_rfl) rfl ?_
 intro a hs
 refine go_seq_k fun K1 hK1 => ?_
 refine go_region ?_
 refine go_pvs 0 3 [0, 1, 2] hs (L' := [(0, .int .u32 a0), (1, .int .u32 a1), (2, .bool a2)]) (by kernel_rfl) ?_ rfl
 clear hs; intro a hs
 refine go_end (by kernel_rfl) ?_
 refine hK1 _ _ ?_
 refine go_seq_k fun K2 hK2 => ?_
 refine go_region ?_
 refine go_pvs 0 6 [0, 1, 2, 14, 15] hs (L' := [(0, .int .u32 a0), (1, .int .u32 a1), (2, .bool a2), (14, .int .i64 (w64 ((w64 a0) + (w64 a1)))), (15, .bool a2)]) (by kernel_rfl) ?_ rfl
 clear hs; intro a hs
 obtain ⟨t4, hx5, H⟩ := bind_some H
 refine go_call hs (op := (Op.call { callee := (Callee.value (Operand.func 50)), args := #[(Operand.tmp 15)], argTypes := #[4] })) (ty := 3) (dst := some 16) (g := none) (by kernel_rfl) (by kernel_rfl) (by kernel_rfl) (f := 50) (args := #[.bool a2]) (by kernel_rfl) (rivetref01_one.calls a2 t4 _ hx5) ?_
 rintro e wd6 ⟨rfl, hw7⟩
 refine ⟨_, rfl, ?_⟩
 replace hw := hw.call hw7
 intro a hs1
 replace hs : Slots a 32 [(0, .int .u32 a0), (1, .int .u32 a1), (2, .bool a2), (14, .int .i64 (w64 ((w64 a0) + (w64 a1)))), (16, .int .i64 t4)] := hs1.keep [0, 1, 2, 14, 16] (by kernel_rfl)
 clear hs1
 refine go_pvs 7 9 [0, 1, 2, 9] hs (L' := [(0, .int .u32 a0), (1, .int .u32 a1), (2, .bool a2), (9, .int .i64 (w64 ((w64 ((w64 a0) + (w64 a1))) + t4)))]) (by kernel_rfl) ?_ rfl
 clear hs; intro a hs
 refine go_end (by kernel_rfl) ?_
 refine hK2 _ _ ?_
 refine go_seq_k fun K8 hK8 => ?_
 refine go_region ?_
 refine go_pvs 0 6 [1, 2, 20, 22, 23] hs (L' := [(1, .int .u32 a1), (2, .bool a2), (20, .int .u32 (wu32 ((w64 ((w64 ((w64 a0) + (w64 a1))) + t4)).tmod 4294967296))), (22, .bool (decide ((w64 ((w64 ((w64 a0) + (w64 a1))) + t4)) ≥ 4294967296))), (23, .int .u32 a0)]) (by kernel_rfl) ?_ rfl
 clear hs; intro a hs
 obtain ⟨t10, hx11, H⟩ := bind_some H
 refine go_call hs (op := (Op.call { callee := (Callee.value (Operand.func 52)), args := #[(Operand.tmp 23)], argTypes := #[22] })) (ty := 3) (dst := some 24) (g := none) (by kernel_rfl) (by kernel_rfl) (by kernel_rfl) (f := 52) (args := #[.int .u32 a0]) (by kernel_rfl) (rivetref01_signed.calls a0 t10 _ hx11) ?_
 rintro e wd12 ⟨rfl, hw13⟩
 refine ⟨_, rfl, ?_⟩
 replace hw := hw.call hw13
 intro a hs1
 replace hs : Slots a 32 [(1, .int .u32 a1), (2, .bool a2), (20, .int .u32 (wu32 ((w64 ((w64 ((w64 a0) + (w64 a1))) + t4)).tmod 4294967296))), (22, .bool (decide ((w64 ((w64 ((w64 a0) + (w64 a1))) + t4)) ≥ 4294967296))), (24, .int .i64 t10)] := hs1.keep [1, 2, 20, 22, 24] (by kernel_rfl)
 clear hs1
 refine go_pvs 7 8 [2, 20, 22, 24, 25] hs (L' := [(2, .bool a2), (20, .int .u32 (wu32 ((w64 ((w64 ((w64 a0) + (w64 a1))) + t4)).tmod 4294967296))), (22, .bool (decide ((w64 ((w64 ((w64 a0) + (w64 a1))) + t4)) ≥ 4294967296))), (24, .int .i64 t10), (25, .int .u32 a1)]) (by kernel_rfl) ?_ rfl
 clear hs; intro a hs
 obtain ⟨t15, hx16, H⟩ := bind_some H
 refine go_call hs (op := (Op.call { callee := (Callee.value (Operand.func 52)), args := #[(Operand.tmp 25)], argTypes := #[22] })) (ty := 3) (dst := some 26) (g := none) (by kernel_rfl) (by kernel_rfl) (by kernel_rfl) (f := 52) (args := #[.int .u32 a1]) (by kernel_rfl) (rivetref01_signed.calls a1 t15 _ hx16) ?_
 rintro e wd17 ⟨rfl, hw18⟩
 refine ⟨_, rfl, ?_⟩
 replace hw := hw.call hw18
 intro a hs1
 replace hs : Slots a 32 [(2, .bool a2), (20, .int .u32 (wu32 ((w64 ((w64 ((w64 a0) + (w64 a1))) + t4)).tmod 4294967296))), (22, .bool (decide ((w64 ((w64 ((w64 a0) + (w64 a1))) + t4)) ≥ 4294967296))), (24, .int .i64 t10), (26, .int .i64 t15)] := hs1.keep [2, 20, 22, 24, 26] (by kernel_rfl)
 clear hs1
 refine go_pvs 9 11 [20, 22, 27, 28] hs (L' := [(20, .int .u32 (wu32 ((w64 ((w64 ((w64 a0) + (w64 a1))) + t4)).tmod 4294967296))), (22, .bool (decide ((w64 ((w64 ((w64 a0) + (w64 a1))) + t4)) ≥ 4294967296))), (27, .int .i64 (w64 (t10 + t15))), (28, .bool a2)]) (by kernel_rfl) ?_ rfl
 clear hs; intro a hs
 obtain ⟨t20, hx21, H⟩ := bind_some H
 refine go_call hs (op := (Op.call { callee := (Callee.value (Operand.func 50)), args := #[(Operand.tmp 28)], argTypes := #[4] })) (ty := 3) (dst := some 29) (g := none) (by kernel_rfl) (by kernel_rfl) (by kernel_rfl) (f := 50) (args := #[.bool a2]) (by kernel_rfl) (rivetref01_one.calls a2 t20 _ hx21) ?_
 rintro e wd22 ⟨rfl, hw23⟩
 refine ⟨_, rfl, ?_⟩
 replace hw := hw.call hw23
 intro a hs1
 replace hs : Slots a 32 [(20, .int .u32 (wu32 ((w64 ((w64 ((w64 a0) + (w64 a1))) + t4)).tmod 4294967296))), (22, .bool (decide ((w64 ((w64 ((w64 a0) + (w64 a1))) + t4)) ≥ 4294967296))), (27, .int .i64 (w64 (t10 + t15))), (29, .int .i64 t20)] := hs1.keep [20, 22, 27, 29] (by kernel_rfl)
 clear hs1
 refine go_pvs 12 13 [20, 22, 30] hs (L' := [(20, .int .u32 (wu32 ((w64 ((w64 ((w64 a0) + (w64 a1))) + t4)).tmod 4294967296))), (22, .bool (decide ((w64 ((w64 ((w64 a0) + (w64 a1))) + t4)) ≥ 4294967296))), (30, .int .i64 (w64 ((w64 (t10 + t15)) + t20)))]) (by kernel_rfl) ?_ rfl
 clear hs; intro a hs
 obtain ⟨t25, hx26, H⟩ := bind_some H
 refine go_call hs (op := (Op.call { callee := (Callee.value (Operand.func 51)), args := #[(Operand.tmp 30)], argTypes := #[3] })) (ty := 4) (dst := some 31) (g := none) (by kernel_rfl) (by kernel_rfl) (by kernel_rfl) (f := 51) (args := #[.int .i64 (w64 ((w64 (t10 + t15)) + t20))]) (by kernel_rfl) (rivetref01_out.calls (w64 ((w64 (t10 + t15)) + t20)) t25 _ hx26) ?_
 rintro e wd27 ⟨rfl, hw28⟩
 refine ⟨_, rfl, ?_⟩
 replace hw := hw.call hw28
 intro a hs1
 replace hs : Slots a 32 [(20, .int .u32 (wu32 ((w64 ((w64 ((w64 a0) + (w64 a1))) + t4)).tmod 4294967296))), (22, .bool (decide ((w64 ((w64 ((w64 a0) + (w64 a1))) + t4)) ≥ 4294967296))), (31, .bool t25)] := hs1.keep [20, 22, 31] (by kernel_rfl)
 clear hs1
 refine go_pvs 14 17 [6, 7, 8] hs (L' := [(6, .int .u32 (wu32 ((w64 ((w64 ((w64 a0) + (w64 a1))) + t4)).tmod 4294967296))), (7, .bool (decide ((w64 ((w64 ((w64 a0) + (w64 a1))) + t4)) ≥ 4294967296))), (8, .bool t25)]) (by kernel_rfl) ?_ rfl
 clear hs; intro a hs
 refine go_end (by kernel_rfl) ?_
 refine hK8 _ _ ?_
 refine wp_ret ?_
 obtain rfl := Option.some.inj H
 refine ret3 (t1 := 6) (v1 := .int .u32 (wu32 ((w64 ((w64 ((w64 a0) + (w64 a1))) + t4)).tmod 4294967296))) (t2 := 7) (v2 := .bool (decide ((w64 ((w64 ((w64 a0) + (w64 a1))) + t4)) ≥ 4294967296))) (t3 := 8) (v3 := .bool t25) hs (by kernel_rfl) (by kernel_rfl) (by kernel_rfl) (by kernel_rfl) ?_
 exact ⟨rfl, hw.only 0⟩

/-! rivet/rivetref01.Sub: function 24 -/
noncomputable def rivetref01_Sub (a0 : Int) (a1 : Int) (a2 : Bool) : Option (Int × Bool × Bool) := ((rivetref01_one a2).bind fun t4 => (((rivetref01_signed a0).bind fun t10 => (((rivetref01_signed a1).bind fun t15 => (((rivetref01_one a2).bind fun t20 => (((rivetref01_out (w64 ((w64 (t10 - t15)) - t20))).bind fun t25 => (some (wu32 ((w64 ((w64 ((w64 ((w64 a0) - (w64 a1))) - t4)) + 8589934592)).tmod 4294967296), decide ((w64 ((w64 ((w64 a0) - (w64 a1))) - t4)) < 0), t25)))))))))))
set_option maxRecDepth 100000 in
set_option maxHeartbeats 4000000 in
theorem rivetref01_Sub.calls (a0 : Int) (a1 : Int) (a2 : Bool) (r : Int × Bool × Bool) (w0 : World) (H : rivetref01_Sub a0 a1 a2 = some r) :
    Calls Try.prog 24 #[.int .u32 a0, .int .u32 a1, .bool a2] w0 fun e w' => e = .returned (.tuple #[.int .u32 r.1, .bool r.2.1, .bool r.2.2]) ∧ St [] w0 w' [] := by
 have hw : St [] w0 w0 [] := St.nil w0
 unfold rivetref01_Sub at H
 refine go_fn Try.func24 rfl 33 Try.ntmps24 [(0, .int .u32 a0), (1, .int .u32 a1), (2, .bool a2)] (by kernel_rfl) rfl ?_
 intro a hs
 refine go_seq_k fun K1 hK1 => ?_
 refine go_region ?_
 refine go_pvs 0 3 [0, 1, 2] hs (L' := [(0, .int .u32 a0), (1, .int .u32 a1), (2, .bool a2)]) (by kernel_rfl) ?_ rfl
 clear hs; intro a hs
 refine go_end (by kernel_rfl) ?_
 refine hK1 _ _ ?_
 refine go_seq_k fun K2 hK2 => ?_
 refine go_region ?_
 refine go_pvs 0 6 [0, 1, 2, 14, 15] hs (L' := [(0, .int .u32 a0), (1, .int .u32 a1), (2, .bool a2), (14, .int .i64 (w64 ((w64 a0) - (w64 a1)))), (15, .bool a2)]) (by kernel_rfl) ?_ rfl
 clear hs; intro a hs
 obtain ⟨t4, hx5, H⟩ := bind_some H
 refine go_call hs (op := (Op.call { callee := (Callee.value (Operand.func 50)), args := #[(Operand.tmp 15)], argTypes := #[4] })) (ty := 3) (dst := some 16) (g := none) (by kernel_rfl) (by kernel_rfl) (by kernel_rfl) (f := 50) (args := #[.bool a2]) (by kernel_rfl) (rivetref01_one.calls a2 t4 _ hx5) ?_
 rintro e wd6 ⟨rfl, hw7⟩
 refine ⟨_, rfl, ?_⟩
 replace hw := hw.call hw7
 intro a hs1
 replace hs : Slots a 33 [(0, .int .u32 a0), (1, .int .u32 a1), (2, .bool a2), (14, .int .i64 (w64 ((w64 a0) - (w64 a1)))), (16, .int .i64 t4)] := hs1.keep [0, 1, 2, 14, 16] (by kernel_rfl)
 clear hs1
 refine go_pvs 7 9 [0, 1, 2, 9] hs (L' := [(0, .int .u32 a0), (1, .int .u32 a1), (2, .bool a2), (9, .int .i64 (w64 ((w64 ((w64 a0) - (w64 a1))) - t4)))]) (by kernel_rfl) ?_ rfl
 clear hs; intro a hs
 refine go_end (by kernel_rfl) ?_
 refine hK2 _ _ ?_
 refine go_seq_k fun K8 hK8 => ?_
 refine go_region ?_
 refine go_pvs 0 7 [1, 2, 21, 23, 24] hs (L' := [(1, .int .u32 a1), (2, .bool a2), (21, .int .u32 (wu32 ((w64 ((w64 ((w64 ((w64 a0) - (w64 a1))) - t4)) + 8589934592)).tmod 4294967296))), (23, .bool (decide ((w64 ((w64 ((w64 a0) - (w64 a1))) - t4)) < 0))), (24, .int .u32 a0)]) (by kernel_rfl) ?_ rfl
 clear hs; intro a hs
 obtain ⟨t10, hx11, H⟩ := bind_some H
 refine go_call hs (op := (Op.call { callee := (Callee.value (Operand.func 52)), args := #[(Operand.tmp 24)], argTypes := #[22] })) (ty := 3) (dst := some 25) (g := none) (by kernel_rfl) (by kernel_rfl) (by kernel_rfl) (f := 52) (args := #[.int .u32 a0]) (by kernel_rfl) (rivetref01_signed.calls a0 t10 _ hx11) ?_
 rintro e wd12 ⟨rfl, hw13⟩
 refine ⟨_, rfl, ?_⟩
 replace hw := hw.call hw13
 intro a hs1
 replace hs : Slots a 33 [(1, .int .u32 a1), (2, .bool a2), (21, .int .u32 (wu32 ((w64 ((w64 ((w64 ((w64 a0) - (w64 a1))) - t4)) + 8589934592)).tmod 4294967296))), (23, .bool (decide ((w64 ((w64 ((w64 a0) - (w64 a1))) - t4)) < 0))), (25, .int .i64 t10)] := hs1.keep [1, 2, 21, 23, 25] (by kernel_rfl)
 clear hs1
 refine go_pvs 8 9 [2, 21, 23, 25, 26] hs (L' := [(2, .bool a2), (21, .int .u32 (wu32 ((w64 ((w64 ((w64 ((w64 a0) - (w64 a1))) - t4)) + 8589934592)).tmod 4294967296))), (23, .bool (decide ((w64 ((w64 ((w64 a0) - (w64 a1))) - t4)) < 0))), (25, .int .i64 t10), (26, .int .u32 a1)]) (by kernel_rfl) ?_ rfl
 clear hs; intro a hs
 obtain ⟨t15, hx16, H⟩ := bind_some H
 refine go_call hs (op := (Op.call { callee := (Callee.value (Operand.func 52)), args := #[(Operand.tmp 26)], argTypes := #[22] })) (ty := 3) (dst := some 27) (g := none) (by kernel_rfl) (by kernel_rfl) (by kernel_rfl) (f := 52) (args := #[.int .u32 a1]) (by kernel_rfl) (rivetref01_signed.calls a1 t15 _ hx16) ?_
 rintro e wd17 ⟨rfl, hw18⟩
 refine ⟨_, rfl, ?_⟩
 replace hw := hw.call hw18
 intro a hs1
 replace hs : Slots a 33 [(2, .bool a2), (21, .int .u32 (wu32 ((w64 ((w64 ((w64 ((w64 a0) - (w64 a1))) - t4)) + 8589934592)).tmod 4294967296))), (23, .bool (decide ((w64 ((w64 ((w64 a0) - (w64 a1))) - t4)) < 0))), (25, .int .i64 t10), (27, .int .i64 t15)] := hs1.keep [2, 21, 23, 25, 27] (by kernel_rfl)
 clear hs1
 refine go_pvs 10 12 [21, 23, 28, 29] hs (L' := [(21, .int .u32 (wu32 ((w64 ((w64 ((w64 ((w64 a0) - (w64 a1))) - t4)) + 8589934592)).tmod 4294967296))), (23, .bool (decide ((w64 ((w64 ((w64 a0) - (w64 a1))) - t4)) < 0))), (28, .int .i64 (w64 (t10 - t15))), (29, .bool a2)]) (by kernel_rfl) ?_ rfl
 clear hs; intro a hs
 obtain ⟨t20, hx21, H⟩ := bind_some H
 refine go_call hs (op := (Op.call { callee := (Callee.value (Operand.func 50)), args := #[(Operand.tmp 29)], argTypes := #[4] })) (ty := 3) (dst := some 30) (g := none) (by kernel_rfl) (by kernel_rfl) (by kernel_rfl) (f := 50) (args := #[.bool a2]) (by kernel_rfl) (rivetref01_one.calls a2 t20 _ hx21) ?_
 rintro e wd22 ⟨rfl, hw23⟩
 refine ⟨_, rfl, ?_⟩
 replace hw := hw.call hw23
 intro a hs1
 replace hs : Slots a 33 [(21, .int .u32 (wu32 ((w64 ((w64 ((w64 ((w64 a0) - (w64 a1))) - t4)) + 8589934592)).tmod 4294967296))), (23, .bool (decide ((w64 ((w64 ((w64 a0) - (w64 a1))) - t4)) < 0))), (28, .int .i64 (w64 (t10 - t15))), (30, .int .i64 t20)] := hs1.keep [21, 23, 28, 30] (by kernel_rfl)
 clear hs1
 refine go_pvs 13 14 [21, 23, 31] hs (L' := [(21, .int .u32 (wu32 ((w64 ((w64 ((w64 ((w64 a0) - (w64 a1))) - t4)) + 8589934592)).tmod 4294967296))), (23, .bool (decide ((w64 ((w64 ((w64 a0) - (w64 a1))) - t4)) < 0))), (31, .int .i64 (w64 ((w64 (t10 - t15)) - t20)))]) (by kernel_rfl) ?_ rfl
 clear hs; intro a hs
 obtain ⟨t25, hx26, H⟩ := bind_some H
 refine go_call hs (op := (Op.call { callee := (Callee.value (Operand.func 51)), args := #[(Operand.tmp 31)], argTypes := #[3] })) (ty := 4) (dst := some 32) (g := none) (by kernel_rfl) (by kernel_rfl) (by kernel_rfl) (f := 51) (args := #[.int .i64 (w64 ((w64 (t10 - t15)) - t20))]) (by kernel_rfl) (rivetref01_out.calls (w64 ((w64 (t10 - t15)) - t20)) t25 _ hx26) ?_
 rintro e wd27 ⟨rfl, hw28⟩
 refine ⟨_, rfl, ?_⟩
 replace hw := hw.call hw28
 intro a hs1
 replace hs : Slots a 33 [(21, .int .u32 (wu32 ((w64 ((w64 ((w64 ((w64 a0) - (w64 a1))) - t4)) + 8589934592)).tmod 4294967296))), (23, .bool (decide ((w64 ((w64 ((w64 a0) - (w64 a1))) - t4)) < 0))), (32, .bool t25)] := hs1.keep [21, 23, 32] (by kernel_rfl)
 clear hs1
 refine go_pvs 15 18 [6, 7, 8] hs (L' := [(6, .int .u32 (wu32 ((w64 ((w64 ((w64 ((w64 a0) - (w64 a1))) - t4)) + 8589934592)).tmod 4294967296))), (7, .bool (decide ((w64 ((w64 ((w64 a0) - (w64 a1))) - t4)) < 0))), (8, .bool t25)]) (by kernel_rfl) ?_ rfl
 clear hs; intro a hs
 refine go_end (by kernel_rfl) ?_
 refine hK8 _ _ ?_
 refine wp_ret ?_
 obtain rfl := Option.some.inj H
 refine ret3 (t1 := 6) (v1 := .int .u32 (wu32 ((w64 ((w64 ((w64 ((w64 a0) - (w64 a1))) - t4)) + 8589934592)).tmod 4294967296))) (t2 := 7) (v2 := .bool (decide ((w64 ((w64 ((w64 a0) - (w64 a1))) - t4)) < 0))) (t3 := 8) (v3 := .bool t25) hs (by kernel_rfl) (by kernel_rfl) (by kernel_rfl) (by kernel_rfl) ?_
 exact ⟨rfl, hw.only 0⟩

/-! rivet/rivetref01.Shift: function 22 -/
noncomputable def rivetref01_Shift.j1 (v6 : Int) (v21 : Int) : Option (Int × Int ⊕ Int) := some (.inl (v21, w64 (v6 + 1)))
noncomputable def rivetref01_Shift.j2 (v23 : Int) : Option Int := some v23
noncomputable def rivetref01_Shift.b4 (a2 : Int) (a0 : Int) (v5 : Int) (v6 : Int) : Option (Int × Int ⊕ Int) := (if v6 < (w64 (a2.tmod 32)) then (if a0 = 1 then rivetref01_Shift.j1 v6 (wu32 ((w64 ((w64 v5) * 2)).tmod 4294967296)) else (if a0 = 2 then rivetref01_Shift.j1 v6 (wu32 ((wu32 (v5.tdiv 2)) + (wu32 ((wu32 (v5.tdiv 2147483648)) * 2147483648)))) else (if a0 = 3 then rivetref01_Shift.j1 v6 (wu32 ((wu32 (v5.tdiv 2)) + (wu32 ((v5.tmod 2) * 2147483648)))) else rivetref01_Shift.j1 v6 v5))) else some (.inr v5))
noncomputable def rivetref01_Shift (a0 : Int) (a1 : Int) (a2 : Int) : Option Int := ((loopO (fun (σ : Int × Int) => rivetref01_Shift.b4 a2 a0 σ.1 σ.2) (a1, 0)).bind fun e => rivetref01_Shift.j2 e)
set_option maxRecDepth 100000 in
set_option maxHeartbeats 4000000 in
theorem rivetref01_Shift.calls (a0 : Int) (a1 : Int) (a2 : Int) (r : Int) (w0 : World) (H : rivetref01_Shift a0 a1 a2 = some r) :
    Calls Try.prog 22 #[.int .i64 a0, .int .u32 a1, .int .u32 a2] w0 fun e w' => e = .returned (.int .u32 r) ∧ St [] w0 w' [] := by
 have hw : St [] w0 w0 [] := St.nil w0
 unfold rivetref01_Shift at H
 refine go_fn Try.func22 rfl 40 Try.ntmps22 [(0, .int .i64 a0), (1, .int .u32 a1), (2, .int .u32 a2)] (by kernel_rfl) rfl ?_
 intro a hs
 refine go_seq_k fun K1 hK1 => ?_
 refine go_region ?_
 refine go_pvs 0 1 [0, 1, 2] hs (L' := [(0, .int .i64 a0), (1, .int .u32 a1), (2, .int .u32 a2)]) (by kernel_rfl) ?_ rfl
 clear hs; intro a hs
 refine go_end (by kernel_rfl) ?_
 refine hK1 _ _ ?_
 refine go_seq_k fun K2 hK2 => ?_
 refine go_seq_k fun K3 hK3 => ?_
 refine go_region ?_
 refine go_pvs 0 1 [0, 1, 2, 7] hs (L' := [(0, .int .i64 a0), (1, .int .u32 a1), (2, .int .u32 a2), (7, .int .i64 0)]) (by kernel_rfl) ?_ rfl
 clear hs; intro a hs
 refine go_end (by kernel_rfl) ?_
 refine hK3 _ _ ?_
 refine wp_block ?_
 obtain ⟨e4, hl4, HX4⟩ := bind_some H
 have hJ2 : ∀ (v23 : Int) (a : Act) (w : World), Slots a 40 [(1, .int .u32 v23)] → St [] w0 w [] → rivetref01_Shift.j2 v23 = some r → K2 a w := by
  intro v23 a w hs hw H
  unfold rivetref01_Shift.j2 at H
  refine hK2 _ _ ?_
  refine go_seq_k fun K24 hK24 => ?_
  refine go_region ?_
  refine go_pvs 0 2 [6] hs (L' := [(6, .int .u32 v23)]) (by kernel_rfl) ?_ rfl
  clear hs; intro a hs
  refine go_end (by kernel_rfl) ?_
  refine hK24 _ _ ?_
  refine wp_ret ?_
  obtain rfl := Option.some.inj H
  refine ret1 (t := 6) (v := .int .u32 v23) hs (by kernel_rfl) (by kernel_rfl) ?_
  exact ⟨rfl, hw.only 0⟩
 clear H
 refine go_loop (σ := Int × Int) (fun σ a w => Slots a 40 [(0, .int .i64 a0), (1, .int .u32 σ.1), (2, .int .u32 a2), (7, .int .i64 σ.2)] ∧ St [] w0 w []) hl4 (by exact ⟨hs.keep [0, 1, 2, 7] (by kernel_rfl), hw⟩) ?_
 rintro ⟨v5, v6⟩ a w ⟨hs, hw⟩ o H hr4
 replace hs : Slots a 40 [(0, .int .i64 a0), (1, .int .u32 v5), (2, .int .u32 a2), (7, .int .i64 v6)] := hs
 replace hw : St [] w0 w [] := hw
 replace H : rivetref01_Shift.b4 a2 a0 v5 v6 = some o := H
 unfold rivetref01_Shift.b4 at H
 refine go_seq_k fun K7 hK7 => ?_
 refine go_seq_k fun K8 hK8 => ?_
 refine go_region ?_
 refine go_pvs 0 5 [0, 1, 2, 7, 12] hs (L' := [(0, .int .i64 a0), (1, .int .u32 v5), (2, .int .u32 a2), (7, .int .i64 v6), (12, .bool (decide (v6 < (w64 (a2.tmod 32)))))]) (by kernel_rfl) ?_ rfl
 clear hs; intro a hs
 refine go_end (by kernel_rfl) ?_
 refine hK8 _ _ ?_
 refine go_cond hs (decide (v6 < (w64 (a2.tmod 32)))) (by kernel_rfl) (fun hc => ?_) (fun hc => ?_)
 ·replace H := ite_t H (of_decide_eq_true hc)
  have hb9 := hc
  rw [hb9] at hs
  refine wp_skip ?_
  refine hK7 _ _ ?_
  refine go_seq_k fun K10 hK10 => ?_
  have hJ1 : ∀ (v21 : Int) (a : Act) (w : World), Slots a 40 [(0, .int .i64 a0), (1, .int .u32 v21), (2, .int .u32 a2), (7, .int .i64 v6)] → St [] w0 w [] → rivetref01_Shift.j1 v6 v21 = some o → K10 a w := by
   intro v21 a w hs hw H
   unfold rivetref01_Shift.j1 at H
   refine hK10 _ _ ?_
   refine go_region ?_
   refine go_pvs 0 3 [0, 1, 2, 7] hs (L' := [(0, .int .i64 a0), (1, .int .u32 v21), (2, .int .u32 a2), (7, .int .i64 (w64 (v6 + 1)))]) (by kernel_rfl) ?_ rfl
   clear hs; intro a hs
   refine go_end (by kernel_rfl) ?_
   replace hw := hw.only 0
   exact round_end (v21, w64 (v6 + 1)) (Option.some.inj H).symm ⟨hs.keep [0, 1, 2, 7] (by kernel_rfl), hw⟩
  refine wp_block ?_
  refine go_seq_k fun K11 hK11 => ?_
  refine go_region ?_
  refine go_pvs 0 1 [0, 1, 2, 7, 15] hs (L' := [(0, .int .i64 a0), (1, .int .u32 v5), (2, .int .u32 a2), (7, .int .i64 v6), (15, .int .i64 a0)]) (by kernel_rfl) ?_ rfl
  clear hs; intro a hs
  refine go_end (by kernel_rfl) ?_
  refine hK11 _ _ ?_
  refine wp_block ?_
  refine go_seq_k fun K12 hK12 => ?_
  refine go_region ?_
  refine go_pvs 0 2 [0, 1, 2, 7, 15, 16] hs (L' := [(0, .int .i64 a0), (1, .int .u32 v5), (2, .int .u32 a2), (7, .int .i64 v6), (15, .int .i64 a0), (16, .bool (a0 == 1))]) (by kernel_rfl) ?_ rfl
  clear hs; intro a hs
  refine go_end (by kernel_rfl) ?_
  refine hK12 _ _ ?_
  refine go_cond hs (a0 == 1) (by kernel_rfl) (fun hc => ?_) (fun hc => ?_)
  ·replace H := ite_t H (beq_iff_eq.1 hc)
   have hb13 := hc
   rw [hb13] at hs
   refine go_region ?_
   refine go_pvs 0 6 [0, 1, 2, 7] hs (L' := [(0, .int .i64 a0), (1, .int .u32 (wu32 ((w64 ((w64 v5) * 2)).tmod 4294967296))), (2, .int .u32 a2), (7, .int .i64 v6)]) (by kernel_rfl) ?_ rfl
   clear hs; intro a hs
   refine go_end (by kernel_rfl) ?_
   refine ib_norm ?_
   refine ib_norm ?_
   replace hw := hw.only 0
   exact hJ1 (wu32 ((w64 ((w64 v5) * 2)).tmod 4294967296)) _ _ (hs.keep [0, 1, 2, 7] (by kernel_rfl)) hw H
  ·replace H := ite_f H (beq_eq_false_iff_ne.1 hc)
   have hb14 := hc
   rw [hb14] at hs
   refine go_seq_k fun K15 hK15 => ?_
   refine go_region ?_
   refine go_pvs 0 2 [0, 1, 2, 7, 15, 23] hs (L' := [(0, .int .i64 a0), (1, .int .u32 v5), (2, .int .u32 a2), (7, .int .i64 v6), (15, .int .i64 a0), (23, .bool (a0 == 2))]) (by kernel_rfl) ?_ rfl
   clear hs; intro a hs
   refine go_end (by kernel_rfl) ?_
   refine hK15 _ _ ?_
   refine go_cond hs (a0 == 2) (by kernel_rfl) (fun hc => ?_) (fun hc => ?_)
   ·replace H := ite_t H (beq_iff_eq.1 hc)
    have hb16 := hc
    rw [hb16] at hs
    refine go_region ?_
    refine go_pvs 0 7 [0, 1, 2, 7] hs (L' := [(0, .int .i64 a0), (1, .int .u32 (wu32 ((wu32 (v5.tdiv 2)) + (wu32 ((wu32 (v5.tdiv 2147483648)) * 2147483648))))), (2, .int .u32 a2), (7, .int .i64 v6)]) (by kernel_rfl) ?_ rfl
    clear hs; intro a hs
    refine go_end (by kernel_rfl) ?_
    refine ib_norm ?_
    refine ib_norm ?_
    replace hw := hw.only 0
    exact hJ1 (wu32 ((wu32 (v5.tdiv 2)) + (wu32 ((wu32 (v5.tdiv 2147483648)) * 2147483648)))) _ _ (hs.keep [0, 1, 2, 7] (by kernel_rfl)) hw H
   ·replace H := ite_f H (beq_eq_false_iff_ne.1 hc)
    have hb17 := hc
    rw [hb17] at hs
    refine go_seq_k fun K18 hK18 => ?_
    refine go_region ?_
    refine go_pvs 0 2 [0, 1, 2, 7, 31] hs (L' := [(0, .int .i64 a0), (1, .int .u32 v5), (2, .int .u32 a2), (7, .int .i64 v6), (31, .bool (a0 == 3))]) (by kernel_rfl) ?_ rfl
    clear hs; intro a hs
    refine go_end (by kernel_rfl) ?_
    refine hK18 _ _ ?_
    refine go_cond hs (a0 == 3) (by kernel_rfl) (fun hc => ?_) (fun hc => ?_)
    ·replace H := ite_t H (beq_iff_eq.1 hc)
     have hb19 := hc
     rw [hb19] at hs
     refine go_region ?_
     refine go_pvs 0 7 [0, 1, 2, 7] hs (L' := [(0, .int .i64 a0), (1, .int .u32 (wu32 ((wu32 (v5.tdiv 2)) + (wu32 ((v5.tmod 2) * 2147483648))))), (2, .int .u32 a2), (7, .int .i64 v6)]) (by kernel_rfl) ?_ rfl
     clear hs; intro a hs
     refine go_end (by kernel_rfl) ?_
     refine ib_norm ?_
     refine ib_norm ?_
     replace hw := hw.only 0
     exact hJ1 (wu32 ((wu32 (v5.tdiv 2)) + (wu32 ((v5.tmod 2) * 2147483648)))) _ _ (hs.keep [0, 1, 2, 7] (by kernel_rfl)) hw H
    ·replace H := ite_f H (beq_eq_false_iff_ne.1 hc)
     have hb20 := hc
     rw [hb20] at hs
     refine wp_skip ?_
     refine ib_norm ?_
     refine ib_norm ?_
     replace hw := hw.only 0
     exact hJ1 v5 _ _ (hs.keep [0, 1, 2, 7] (by kernel_rfl)) hw H
 ·replace H := ite_f H (of_decide_eq_false hc)
  have hb22 := hc
  rw [hb22] at hs
  refine wp_exit ?_
  refine th_exit ?_
  refine th_exit ?_
  refine in_block ?_
  replace hw := hw.only 0
  rw [← hr4 _ (Option.some.inj H).symm] at HX4
  exact hJ2 v5 _ _ (hs.keep [1] (by kernel_rfl)) hw HX4

/-! rivet/rivetref01.Mul: function 25 -/
noncomputable def rivetref01_Mul.j2 (a0 : Int) (a1 : Int) (v32 : Int) : Option (Int × Int) := some (wu32 (w64 (((w64 (((w64 a0).tmod 65536) * ((w64 a1).tmod 65536))).tmod 65536) + (w64 (((w64 ((w64 ((w64 (((w64 a0).tmod 65536) * (w64 ((w64 a1).tdiv 65536)))) + (w64 ((w64 ((w64 a0).tdiv 65536)) * ((w64 a1).tmod 65536))))) + (w64 ((w64 (((w64 a0).tmod 65536) * ((w64 a1).tmod 65536))).tdiv 65536)))).tmod 65536) * 65536)))), wu32 ((w64 (v32 + 17179869184)).tmod 4294967296))
noncomputable def rivetref01_Mul.j1 (a1 : Int) (a0 : Int) (v22 : Int) : Option (Int × Int) := ((rivetref01_signed a1).bind fun t25 => ((if t25 < 0 then rivetref01_Mul.j2 a0 a1 (w64 (v22 - (w64 a0))) else rivetref01_Mul.j2 a0 a1 v22)))
noncomputable def rivetref01_Mul (a0 : Int) (a1 : Int) (a2 : Bool) : Option (Int × Int) := (if a2 = true then rivetref01_Mul.j2 a0 a1 (w64 ((w64 ((w64 ((w64 a0).tdiv 65536)) * (w64 ((w64 a1).tdiv 65536)))) + (w64 ((w64 ((w64 ((w64 (((w64 a0).tmod 65536) * (w64 ((w64 a1).tdiv 65536)))) + (w64 ((w64 ((w64 a0).tdiv 65536)) * ((w64 a1).tmod 65536))))) + (w64 ((w64 (((w64 a0).tmod 65536) * ((w64 a1).tmod 65536))).tdiv 65536)))).tdiv 65536)))) else ((rivetref01_signed a0).bind fun t16 => ((if t16 < 0 then rivetref01_Mul.j1 a1 a0 (w64 ((w64 ((w64 ((w64 ((w64 a0).tdiv 65536)) * (w64 ((w64 a1).tdiv 65536)))) + (w64 ((w64 ((w64 ((w64 (((w64 a0).tmod 65536) * (w64 ((w64 a1).tdiv 65536)))) + (w64 ((w64 ((w64 a0).tdiv 65536)) * ((w64 a1).tmod 65536))))) + (w64 ((w64 (((w64 a0).tmod 65536) * ((w64 a1).tmod 65536))).tdiv 65536)))).tdiv 65536)))) - (w64 a1))) else rivetref01_Mul.j1 a1 a0 (w64 ((w64 ((w64 ((w64 a0).tdiv 65536)) * (w64 ((w64 a1).tdiv 65536)))) + (w64 ((w64 ((w64 ((w64 (((w64 a0).tmod 65536) * (w64 ((w64 a1).tdiv 65536)))) + (w64 ((w64 ((w64 a0).tdiv 65536)) * ((w64 a1).tmod 65536))))) + (w64 ((w64 (((w64 a0).tmod 65536) * ((w64 a1).tmod 65536))).tdiv 65536)))).tdiv 65536))))))))
set_option maxRecDepth 100000 in
set_option maxHeartbeats 4000000 in
theorem rivetref01_Mul.calls (a0 : Int) (a1 : Int) (a2 : Bool) (r : Int × Int) (w0 : World) (H : rivetref01_Mul a0 a1 a2 = some r) :
    Calls Try.prog 25 #[.int .u32 a0, .int .u32 a1, .bool a2] w0 fun e w' => e = .returned (.tuple #[.int .u32 r.1, .int .u32 r.2]) ∧ St [] w0 w' [] := by
 have hw : St [] w0 w0 [] := St.nil w0
 unfold rivetref01_Mul at H
 refine go_fn Try.func25 rfl 74 Try.ntmps25 [(0, .int .u32 a0), (1, .int .u32 a1), (2, .bool a2)] (by kernel_rfl) rfl ?_
 intro a hs
 refine go_seq_k fun K1 hK1 => ?_
 refine go_region ?_
 refine go_pvs 0 2 [0, 1, 2] hs (L' := [(0, .int .u32 a0), (1, .int .u32 a1), (2, .bool a2)]) (by kernel_rfl) ?_ rfl
 clear hs; intro a hs
 refine go_end (by kernel_rfl) ?_
 refine hK1 _ _ ?_
 refine go_seq_k fun K2 hK2 => ?_
 refine go_region ?_
 refine go_pvs 0 4 [0, 1, 2, 8] hs (L' := [(0, .int .u32 a0), (1, .int .u32 a1), (2, .bool a2), (8, .int .i64 ((w64 a0).tmod 65536))]) (by kernel_rfl) ?_ rfl
 clear hs; intro a hs
 refine go_end (by kernel_rfl) ?_
 refine hK2 _ _ ?_
 refine go_seq_k fun K3 hK3 => ?_
 refine go_region ?_
 refine go_pvs 0 4 [0, 1, 2, 8, 9] hs (L' := [(0, .int .u32 a0), (1, .int .u32 a1), (2, .bool a2), (8, .int .i64 ((w64 a0).tmod 65536)), (9, .int .i64 (w64 ((w64 a0).tdiv 65536)))]) (by kernel_rfl) ?_ rfl
 clear hs; intro a hs
 refine go_end (by kernel_rfl) ?_
 refine hK3 _ _ ?_
 refine go_seq_k fun K4 hK4 => ?_
 refine go_region ?_
 refine go_pvs 0 4 [0, 1, 2, 8, 9, 10] hs (L' := [(0, .int .u32 a0), (1, .int .u32 a1), (2, .bool a2), (8, .int .i64 ((w64 a0).tmod 65536)), (9, .int .i64 (w64 ((w64 a0).tdiv 65536))), (10, .int .i64 ((w64 a1).tmod 65536))]) (by kernel_rfl) ?_ rfl
 clear hs; intro a hs
 refine go_end (by kernel_rfl) ?_
 refine hK4 _ _ ?_
 refine go_seq_k fun K5 hK5 => ?_
 refine go_region ?_
 refine go_pvs 0 4 [0, 1, 2, 8, 9, 10, 11] hs (L' := [(0, .int .u32 a0), (1, .int .u32 a1), (2, .bool a2), (8, .int .i64 ((w64 a0).tmod 65536)), (9, .int .i64 (w64 ((w64 a0).tdiv 65536))), (10, .int .i64 ((w64 a1).tmod 65536)), (11, .int .i64 (w64 ((w64 a1).tdiv 65536)))]) (by kernel_rfl) ?_ rfl
 clear hs; intro a hs
 refine go_end (by kernel_rfl) ?_
 refine hK5 _ _ ?_
 refine go_seq_k fun K6 hK6 => ?_
 refine go_region ?_
 refine go_pvs 0 4 [0, 1, 2, 8, 9, 10, 11, 12] hs (L' := [(0, .int .u32 a0), (1, .int .u32 a1), (2, .bool a2), (8, .int .i64 ((w64 a0).tmod 65536)), (9, .int .i64 (w64 ((w64 a0).tdiv 65536))), (10, .int .i64 ((w64 a1).tmod 65536)), (11, .int .i64 (w64 ((w64 a1).tdiv 65536))), (12, .int .i64 (w64 (((w64 a0).tmod 65536) * ((w64 a1).tmod 65536))))]) (by kernel_rfl) ?_ rfl
 clear hs; intro a hs
 refine go_end (by kernel_rfl) ?_
 refine hK6 _ _ ?_
 refine go_seq_k fun K7 hK7 => ?_
 refine go_region ?_
 refine go_pvs 0 11 [0, 1, 2, 9, 11, 12, 13] hs (L' := [(0, .int .u32 a0), (1, .int .u32 a1), (2, .bool a2), (9, .int .i64 (w64 ((w64 a0).tdiv 65536))), (11, .int .i64 (w64 ((w64 a1).tdiv 65536))), (12, .int .i64 (w64 (((w64 a0).tmod 65536) * ((w64 a1).tmod 65536)))), (13, .int .i64 (w64 ((w64 ((w64 (((w64 a0).tmod 65536) * (w64 ((w64 a1).tdiv 65536)))) + (w64 ((w64 ((w64 a0).tdiv 65536)) * ((w64 a1).tmod 65536))))) + (w64 ((w64 (((w64 a0).tmod 65536) * ((w64 a1).tmod 65536))).tdiv 65536)))))]) (by kernel_rfl) ?_ rfl
 clear hs; intro a hs
 refine go_end (by kernel_rfl) ?_
 refine hK7 _ _ ?_
 refine go_seq_k fun K8 hK8 => ?_
 refine go_region ?_
 refine go_pvs 0 7 [0, 1, 2, 12, 13, 14] hs (L' := [(0, .int .u32 a0), (1, .int .u32 a1), (2, .bool a2), (12, .int .i64 (w64 (((w64 a0).tmod 65536) * ((w64 a1).tmod 65536)))), (13, .int .i64 (w64 ((w64 ((w64 (((w64 a0).tmod 65536) * (w64 ((w64 a1).tdiv 65536)))) + (w64 ((w64 ((w64 a0).tdiv 65536)) * ((w64 a1).tmod 65536))))) + (w64 ((w64 (((w64 a0).tmod 65536) * ((w64 a1).tmod 65536))).tdiv 65536))))), (14, .int .i64 (w64 ((w64 ((w64 ((w64 a0).tdiv 65536)) * (w64 ((w64 a1).tdiv 65536)))) + (w64 ((w64 ((w64 ((w64 (((w64 a0).tmod 65536) * (w64 ((w64 a1).tdiv 65536)))) + (w64 ((w64 ((w64 a0).tdiv 65536)) * ((w64 a1).tmod 65536))))) + (w64 ((w64 (((w64 a0).tmod 65536) * ((w64 a1).tmod 65536))).tdiv 65536)))).tdiv 65536)))))]) (by kernel_rfl) ?_ rfl
 clear hs; intro a hs
 refine go_end (by kernel_rfl) ?_
 refine hK8 _ _ ?_
 refine go_seq_k fun K9 hK9 => ?_
 refine go_region ?_
 refine go_pvs 0 7 [0, 1, 2, 12, 14] hs (L' := [(0, .int .u32 a0), (1, .int .u32 a1), (2, .bool a2), (12, .int .i64 (w64 (((w64 (((w64 a0).tmod 65536) * ((w64 a1).tmod 65536))).tmod 65536) + (w64 (((w64 ((w64 ((w64 (((w64 a0).tmod 65536) * (w64 ((w64 a1).tdiv 65536)))) + (w64 ((w64 ((w64 a0).tdiv 65536)) * ((w64 a1).tmod 65536))))) + (w64 ((w64 (((w64 a0).tmod 65536) * ((w64 a1).tmod 65536))).tdiv 65536)))).tmod 65536) * 65536))))), (14, .int .i64 (w64 ((w64 ((w64 ((w64 a0).tdiv 65536)) * (w64 ((w64 a1).tdiv 65536)))) + (w64 ((w64 ((w64 ((w64 (((w64 a0).tmod 65536) * (w64 ((w64 a1).tdiv 65536)))) + (w64 ((w64 ((w64 a0).tdiv 65536)) * ((w64 a1).tmod 65536))))) + (w64 ((w64 (((w64 a0).tmod 65536) * ((w64 a1).tmod 65536))).tdiv 65536)))).tdiv 65536)))))]) (by kernel_rfl) ?_ rfl
 clear hs; intro a hs
 refine go_end (by kernel_rfl) ?_
 refine hK9 _ _ ?_
 refine go_seq_k fun K10 hK10 => ?_
 have hJ2 : ∀ (v32 : Int) (a : Act) (w : World), Slots a 74 [(12, .int .i64 (w64 (((w64 (((w64 a0).tmod 65536) * ((w64 a1).tmod 65536))).tmod 65536) + (w64 (((w64 ((w64 ((w64 (((w64 a0).tmod 65536) * (w64 ((w64 a1).tdiv 65536)))) + (w64 ((w64 ((w64 a0).tdiv 65536)) * ((w64 a1).tmod 65536))))) + (w64 ((w64 (((w64 a0).tmod 65536) * ((w64 a1).tmod 65536))).tdiv 65536)))).tmod 65536) * 65536))))), (14, .int .i64 v32)] → St [] w0 w [] → rivetref01_Mul.j2 a0 a1 v32 = some r → K10 a w := by
  intro v32 a w hs hw H
  unfold rivetref01_Mul.j2 at H
  refine hK10 _ _ ?_
  refine go_seq_k fun K33 hK33 => ?_
  refine go_region ?_
  refine go_pvs 0 8 [6, 7] hs (L' := [(6, .int .u32 (wu32 (w64 (((w64 (((w64 a0).tmod 65536) * ((w64 a1).tmod 65536))).tmod 65536) + (w64 (((w64 ((w64 ((w64 (((w64 a0).tmod 65536) * (w64 ((w64 a1).tdiv 65536)))) + (w64 ((w64 ((w64 a0).tdiv 65536)) * ((w64 a1).tmod 65536))))) + (w64 ((w64 (((w64 a0).tmod 65536) * ((w64 a1).tmod 65536))).tdiv 65536)))).tmod 65536) * 65536)))))), (7, .int .u32 (wu32 ((w64 (v32 + 17179869184)).tmod 4294967296)))]) (by kernel_rfl) ?_ rfl
  clear hs; intro a hs
  refine go_end (by kernel_rfl) ?_
  refine hK33 _ _ ?_
  refine wp_ret ?_
  obtain rfl := Option.some.inj H
  refine ret2 (t1 := 6) (v1 := .int .u32 (wu32 (w64 (((w64 (((w64 a0).tmod 65536) * ((w64 a1).tmod 65536))).tmod 65536) + (w64 (((w64 ((w64 ((w64 (((w64 a0).tmod 65536) * (w64 ((w64 a1).tdiv 65536)))) + (w64 ((w64 ((w64 a0).tdiv 65536)) * ((w64 a1).tmod 65536))))) + (w64 ((w64 (((w64 a0).tmod 65536) * ((w64 a1).tmod 65536))).tdiv 65536)))).tmod 65536) * 65536)))))) (t2 := 7) (v2 := .int .u32 (wu32 ((w64 (v32 + 17179869184)).tmod 4294967296))) hs (by kernel_rfl) (by kernel_rfl) (by kernel_rfl) ?_
  exact ⟨rfl, hw.only 0⟩
 refine go_seq_k fun K11 hK11 => ?_
 refine go_region ?_
 refine go_pvs 0 2 [0, 1, 12, 14, 53] hs (L' := [(0, .int .u32 a0), (1, .int .u32 a1), (12, .int .i64 (w64 (((w64 (((w64 a0).tmod 65536) * ((w64 a1).tmod 65536))).tmod 65536) + (w64 (((w64 ((w64 ((w64 (((w64 a0).tmod 65536) * (w64 ((w64 a1).tdiv 65536)))) + (w64 ((w64 ((w64 a0).tdiv 65536)) * ((w64 a1).tmod 65536))))) + (w64 ((w64 (((w64 a0).tmod 65536) * ((w64 a1).tmod 65536))).tdiv 65536)))).tmod 65536) * 65536))))), (14, .int .i64 (w64 ((w64 ((w64 ((w64 a0).tdiv 65536)) * (w64 ((w64 a1).tdiv 65536)))) + (w64 ((w64 ((w64 ((w64 (((w64 a0).tmod 65536) * (w64 ((w64 a1).tdiv 65536)))) + (w64 ((w64 ((w64 a0).tdiv 65536)) * ((w64 a1).tmod 65536))))) + (w64 ((w64 (((w64 a0).tmod 65536) * ((w64 a1).tmod 65536))).tdiv 65536)))).tdiv 65536))))), (53, .bool (!a2))]) (by kernel_rfl) ?_ rfl
 clear hs; intro a hs
 refine go_end (by kernel_rfl) ?_
 refine hK11 _ _ ?_
 refine go_cond hs (!a2) (by kernel_rfl) (fun hc => ?_) (fun hc => ?_)
 ·replace H := ite_f H (ff (nt hc))
  have hb12 := hc
  rw [hb12] at hs
  refine go_seq_k fun K13 hK13 => ?_
  have hJ1 : ∀ (v22 : Int) (a : Act) (w : World), Slots a 74 [(0, .int .u32 a0), (1, .int .u32 a1), (12, .int .i64 (w64 (((w64 (((w64 a0).tmod 65536) * ((w64 a1).tmod 65536))).tmod 65536) + (w64 (((w64 ((w64 ((w64 (((w64 a0).tmod 65536) * (w64 ((w64 a1).tdiv 65536)))) + (w64 ((w64 ((w64 a0).tdiv 65536)) * ((w64 a1).tmod 65536))))) + (w64 ((w64 (((w64 a0).tmod 65536) * ((w64 a1).tmod 65536))).tdiv 65536)))).tmod 65536) * 65536))))), (14, .int .i64 v22)] → St [] w0 w [] → rivetref01_Mul.j1 a1 a0 v22 = some r → K13 a w := by
   intro v22 a w hs hw H
   unfold rivetref01_Mul.j1 at H
   refine hK13 _ _ ?_
   refine go_seq_k fun K23 hK23 => ?_
   refine go_region ?_
   refine go_pvs 0 1 [0, 12, 14, 61] hs (L' := [(0, .int .u32 a0), (12, .int .i64 (w64 (((w64 (((w64 a0).tmod 65536) * ((w64 a1).tmod 65536))).tmod 65536) + (w64 (((w64 ((w64 ((w64 (((w64 a0).tmod 65536) * (w64 ((w64 a1).tdiv 65536)))) + (w64 ((w64 ((w64 a0).tdiv 65536)) * ((w64 a1).tmod 65536))))) + (w64 ((w64 (((w64 a0).tmod 65536) * ((w64 a1).tmod 65536))).tdiv 65536)))).tmod 65536) * 65536))))), (14, .int .i64 v22), (61, .int .u32 a1)]) (by kernel_rfl) ?_ rfl
   clear hs; intro a hs
   obtain ⟨t25, hx26, H⟩ := bind_some H
   refine go_call hs (op := (Op.call { callee := (Callee.value (Operand.func 52)), args := #[(Operand.tmp 61)], argTypes := #[22] })) (ty := 3) (dst := some 62) (g := none) (by kernel_rfl) (by kernel_rfl) (by kernel_rfl) (f := 52) (args := #[.int .u32 a1]) (by kernel_rfl) (rivetref01_signed.calls a1 t25 _ hx26) ?_
   rintro e wd27 ⟨rfl, hw28⟩
   refine ⟨_, rfl, ?_⟩
   replace hw := hw.call hw28
   intro a hs1
   replace hs : Slots a 74 [(0, .int .u32 a0), (12, .int .i64 (w64 (((w64 (((w64 a0).tmod 65536) * ((w64 a1).tmod 65536))).tmod 65536) + (w64 (((w64 ((w64 ((w64 (((w64 a0).tmod 65536) * (w64 ((w64 a1).tdiv 65536)))) + (w64 ((w64 ((w64 a0).tdiv 65536)) * ((w64 a1).tmod 65536))))) + (w64 ((w64 (((w64 a0).tmod 65536) * ((w64 a1).tmod 65536))).tdiv 65536)))).tmod 65536) * 65536))))), (14, .int .i64 v22), (62, .int .i64 t25)] := hs1.keep [0, 12, 14, 62] (by kernel_rfl)
   clear hs1
   refine go_pvs 2 3 [0, 12, 14, 63] hs (L' := [(0, .int .u32 a0), (12, .int .i64 (w64 (((w64 (((w64 a0).tmod 65536) * ((w64 a1).tmod 65536))).tmod 65536) + (w64 (((w64 ((w64 ((w64 (((w64 a0).tmod 65536) * (w64 ((w64 a1).tdiv 65536)))) + (w64 ((w64 ((w64 a0).tdiv 65536)) * ((w64 a1).tmod 65536))))) + (w64 ((w64 (((w64 a0).tmod 65536) * ((w64 a1).tmod 65536))).tdiv 65536)))).tmod 65536) * 65536))))), (14, .int .i64 v22), (63, .bool (decide (t25 < 0)))]) (by kernel_rfl) ?_ rfl
   clear hs; intro a hs
   refine go_end (by kernel_rfl) ?_
   refine hK23 _ _ ?_
   refine go_cond hs (decide (t25 < 0)) (by kernel_rfl) (fun hc => ?_) (fun hc => ?_)
   ·replace H := ite_t H (of_decide_eq_true hc)
    have hb29 := hc
    rw [hb29] at hs
    refine go_region ?_
    refine go_pvs 0 5 [12, 14] hs (L' := [(12, .int .i64 (w64 (((w64 (((w64 a0).tmod 65536) * ((w64 a1).tmod 65536))).tmod 65536) + (w64 (((w64 ((w64 ((w64 (((w64 a0).tmod 65536) * (w64 ((w64 a1).tdiv 65536)))) + (w64 ((w64 ((w64 a0).tdiv 65536)) * ((w64 a1).tmod 65536))))) + (w64 ((w64 (((w64 a0).tmod 65536) * ((w64 a1).tmod 65536))).tdiv 65536)))).tmod 65536) * 65536))))), (14, .int .i64 (w64 (v22 - (w64 a0))))]) (by kernel_rfl) ?_ rfl
    clear hs; intro a hs
    refine go_end (by kernel_rfl) ?_
    replace hw := hw.only 0
    exact hJ2 (w64 (v22 - (w64 a0))) _ _ (hs.keep [12, 14] (by kernel_rfl)) hw H
   ·replace H := ite_f H (of_decide_eq_false hc)
    have hb30 := hc
    rw [hb30] at hs
    refine wp_skip ?_
    replace hw := hw.only 0
    exact hJ2 v22 _ _ (hs.keep [12, 14] (by kernel_rfl)) hw H
  refine go_seq_k fun K14 hK14 => ?_
  refine go_region ?_
  refine go_pvs 0 1 [0, 1, 12, 14, 54] hs (L' := [(0, .int .u32 a0), (1, .int .u32 a1), (12, .int .i64 (w64 (((w64 (((w64 a0).tmod 65536) * ((w64 a1).tmod 65536))).tmod 65536) + (w64 (((w64 ((w64 ((w64 (((w64 a0).tmod 65536) * (w64 ((w64 a1).tdiv 65536)))) + (w64 ((w64 ((w64 a0).tdiv 65536)) * ((w64 a1).tmod 65536))))) + (w64 ((w64 (((w64 a0).tmod 65536) * ((w64 a1).tmod 65536))).tdiv 65536)))).tmod 65536) * 65536))))), (14, .int .i64 (w64 ((w64 ((w64 ((w64 a0).tdiv 65536)) * (w64 ((w64 a1).tdiv 65536)))) + (w64 ((w64 ((w64 ((w64 (((w64 a0).tmod 65536) * (w64 ((w64 a1).tdiv 65536)))) + (w64 ((w64 ((w64 a0).tdiv 65536)) * ((w64 a1).tmod 65536))))) + (w64 ((w64 (((w64 a0).tmod 65536) * ((w64 a1).tmod 65536))).tdiv 65536)))).tdiv 65536))))), (54, .int .u32 a0)]) (by kernel_rfl) ?_ rfl
  clear hs; intro a hs
  obtain ⟨t16, hx17, H⟩ := bind_some H
  refine go_call hs (op := (Op.call { callee := (Callee.value (Operand.func 52)), args := #[(Operand.tmp 54)], argTypes := #[22] })) (ty := 3) (dst := some 55) (g := none) (by kernel_rfl) (by kernel_rfl) (by kernel_rfl) (f := 52) (args := #[.int .u32 a0]) (by kernel_rfl) (rivetref01_signed.calls a0 t16 _ hx17) ?_
  rintro e wd18 ⟨rfl, hw19⟩
  refine ⟨_, rfl, ?_⟩
  replace hw := hw.call hw19
  intro a hs1
  replace hs : Slots a 74 [(0, .int .u32 a0), (1, .int .u32 a1), (12, .int .i64 (w64 (((w64 (((w64 a0).tmod 65536) * ((w64 a1).tmod 65536))).tmod 65536) + (w64 (((w64 ((w64 ((w64 (((w64 a0).tmod 65536) * (w64 ((w64 a1).tdiv 65536)))) + (w64 ((w64 ((w64 a0).tdiv 65536)) * ((w64 a1).tmod 65536))))) + (w64 ((w64 (((w64 a0).tmod 65536) * ((w64 a1).tmod 65536))).tdiv 65536)))).tmod 65536) * 65536))))), (14, .int .i64 (w64 ((w64 ((w64 ((w64 a0).tdiv 65536)) * (w64 ((w64 a1).tdiv 65536)))) + (w64 ((w64 ((w64 ((w64 (((w64 a0).tmod 65536) * (w64 ((w64 a1).tdiv 65536)))) + (w64 ((w64 ((w64 a0).tdiv 65536)) * ((w64 a1).tmod 65536))))) + (w64 ((w64 (((w64 a0).tmod 65536) * ((w64 a1).tmod 65536))).tdiv 65536)))).tdiv 65536))))), (55, .int .i64 t16)] := hs1.keep [0, 1, 12, 14, 55] (by kernel_rfl)
  clear hs1
  refine go_pvs 2 3 [0, 1, 12, 14, 56] hs (L' := [(0, .int .u32 a0), (1, .int .u32 a1), (12, .int .i64 (w64 (((w64 (((w64 a0).tmod 65536) * ((w64 a1).tmod 65536))).tmod 65536) + (w64 (((w64 ((w64 ((w64 (((w64 a0).tmod 65536) * (w64 ((w64 a1).tdiv 65536)))) + (w64 ((w64 ((w64 a0).tdiv 65536)) * ((w64 a1).tmod 65536))))) + (w64 ((w64 (((w64 a0).tmod 65536) * ((w64 a1).tmod 65536))).tdiv 65536)))).tmod 65536) * 65536))))), (14, .int .i64 (w64 ((w64 ((w64 ((w64 a0).tdiv 65536)) * (w64 ((w64 a1).tdiv 65536)))) + (w64 ((w64 ((w64 ((w64 (((w64 a0).tmod 65536) * (w64 ((w64 a1).tdiv 65536)))) + (w64 ((w64 ((w64 a0).tdiv 65536)) * ((w64 a1).tmod 65536))))) + (w64 ((w64 (((w64 a0).tmod 65536) * ((w64 a1).tmod 65536))).tdiv 65536)))).tdiv 65536))))), (56, .bool (decide (t16 < 0)))]) (by kernel_rfl) ?_ rfl
  clear hs; intro a hs
  refine go_end (by kernel_rfl) ?_
  refine hK14 _ _ ?_
  refine go_cond hs (decide (t16 < 0)) (by kernel_rfl) (fun hc => ?_) (fun hc => ?_)
  ·replace H := ite_t H (of_decide_eq_true hc)
   have hb20 := hc
   rw [hb20] at hs
   refine go_region ?_
   refine go_pvs 0 5 [0, 1, 12, 14] hs (L' := [(0, .int .u32 a0), (1, .int .u32 a1), (12, .int .i64 (w64 (((w64 (((w64 a0).tmod 65536) * ((w64 a1).tmod 65536))).tmod 65536) + (w64 (((w64 ((w64 ((w64 (((w64 a0).tmod 65536) * (w64 ((w64 a1).tdiv 65536)))) + (w64 ((w64 ((w64 a0).tdiv 65536)) * ((w64 a1).tmod 65536))))) + (w64 ((w64 (((w64 a0).tmod 65536) * ((w64 a1).tmod 65536))).tdiv 65536)))).tmod 65536) * 65536))))), (14, .int .i64 (w64 ((w64 ((w64 ((w64 ((w64 a0).tdiv 65536)) * (w64 ((w64 a1).tdiv 65536)))) + (w64 ((w64 ((w64 ((w64 (((w64 a0).tmod 65536) * (w64 ((w64 a1).tdiv 65536)))) + (w64 ((w64 ((w64 a0).tdiv 65536)) * ((w64 a1).tmod 65536))))) + (w64 ((w64 (((w64 a0).tmod 65536) * ((w64 a1).tmod 65536))).tdiv 65536)))).tdiv 65536)))) - (w64 a1))))]) (by kernel_rfl) ?_ rfl
   clear hs; intro a hs
   refine go_end (by kernel_rfl) ?_
   replace hw := hw.only 0
   exact hJ1 (w64 ((w64 ((w64 ((w64 ((w64 a0).tdiv 65536)) * (w64 ((w64 a1).tdiv 65536)))) + (w64 ((w64 ((w64 ((w64 (((w64 a0).tmod 65536) * (w64 ((w64 a1).tdiv 65536)))) + (w64 ((w64 ((w64 a0).tdiv 65536)) * ((w64 a1).tmod 65536))))) + (w64 ((w64 (((w64 a0).tmod 65536) * ((w64 a1).tmod 65536))).tdiv 65536)))).tdiv 65536)))) - (w64 a1))) _ _ (hs.keep [0, 1, 12, 14] (by kernel_rfl)) hw H
  ·replace H := ite_f H (of_decide_eq_false hc)
   have hb21 := hc
   rw [hb21] at hs
   refine wp_skip ?_
   replace hw := hw.only 0
   exact hJ1 (w64 ((w64 ((w64 ((w64 a0).tdiv 65536)) * (w64 ((w64 a1).tdiv 65536)))) + (w64 ((w64 ((w64 ((w64 (((w64 a0).tmod 65536) * (w64 ((w64 a1).tdiv 65536)))) + (w64 ((w64 ((w64 a0).tdiv 65536)) * ((w64 a1).tmod 65536))))) + (w64 ((w64 (((w64 a0).tmod 65536) * ((w64 a1).tmod 65536))).tdiv 65536)))).tdiv 65536)))) _ _ (hs.keep [0, 1, 12, 14] (by kernel_rfl)) hw H
 ·replace H := ite_t H (nf hc)
  have hb31 := hc
  rw [hb31] at hs
  refine wp_skip ?_
  replace hw := hw.only 0
  exact hJ2 (w64 ((w64 ((w64 ((w64 a0).tdiv 65536)) * (w64 ((w64 a1).tdiv 65536)))) + (w64 ((w64 ((w64 ((w64 (((w64 a0).tmod 65536) * (w64 ((w64 a1).tdiv 65536)))) + (w64 ((w64 ((w64 a0).tdiv 65536)) * ((w64 a1).tmod 65536))))) + (w64 ((w64 (((w64 a0).tmod 65536) * ((w64 a1).tmod 65536))).tdiv 65536)))).tdiv 65536)))) _ _ (hs.keep [12, 14] (by kernel_rfl)) hw H

/-! rivet/rivetref01.Div: function 26 -/
noncomputable def rivetref01_Div.j1 (v28 : Int) (v29 : Int) : Option (Int × Int × Bool) := some (wu32 ((w64 (v28 + 4294967296)).tmod 4294967296), wu32 v29, true)
noncomputable def rivetref01_Div (a0 : Int) (a1 : Int) : Option (Int × Int × Bool) := ((rivetref01_signed a0).bind fun t4 => (((rivetref01_signed a1).bind fun t10 => ((if t10 ≤ 0 then some (0, 0, false) else (if t10 ≠ 0 then (if t10 ≠ 0 then (if (t4.tmod t10) < 0 then rivetref01_Div.j1 (w64 ((w64 (t4.tdiv t10)) - 1)) (w64 ((t4.tmod t10) + t10)) else rivetref01_Div.j1 (w64 (t4.tdiv t10)) (t4.tmod t10)) else none) else none))))))
set_option maxRecDepth 100000 in
set_option maxHeartbeats 4000000 in
theorem rivetref01_Div.calls (a0 : Int) (a1 : Int) (r : Int × Int × Bool) (w0 : World) (H : rivetref01_Div a0 a1 = some r) :
    Calls Try.prog 26 #[.int .u32 a0, .int .u32 a1] w0 fun e w' => e = .returned (.tuple #[.int .u32 r.1, .int .u32 r.2.1, .bool r.2.2]) ∧ St [] w0 w' [] := by
 have hw : St [] w0 w0 [] := St.nil w0
 unfold rivetref01_Div at H
 refine go_fn Try.func26 rfl 36 Try.ntmps26 [(0, .int .u32 a0), (1, .int .u32 a1)] (by kernel_rfl) rfl ?_
 intro a hs
 refine go_seq_k fun K1 hK1 => ?_
 refine go_region ?_
 refine go_pvs 0 3 [0, 1] hs (L' := [(0, .int .u32 a0), (1, .int .u32 a1)]) (by kernel_rfl) ?_ rfl
 clear hs; intro a hs
 refine go_end (by kernel_rfl) ?_
 refine hK1 _ _ ?_
 refine go_seq_k fun K2 hK2 => ?_
 refine go_region ?_
 refine go_pvs 0 1 [1, 11] hs (L' := [(1, .int .u32 a1), (11, .int .u32 a0)]) (by kernel_rfl) ?_ rfl
 clear hs; intro a hs
 obtain ⟨t4, hx5, H⟩ := bind_some H
 refine go_call hs (op := (Op.call { callee := (Callee.value (Operand.func 52)), args := #[(Operand.tmp 11)], argTypes := #[22] })) (ty := 3) (dst := some 12) (g := none) (by kernel_rfl) (by kernel_rfl) (by kernel_rfl) (f := 52) (args := #[.int .u32 a0]) (by kernel_rfl) (rivetref01_signed.calls a0 t4 _ hx5) ?_
 rintro e wd6 ⟨rfl, hw7⟩
 refine ⟨_, rfl, ?_⟩
 replace hw := hw.call hw7
 intro a hs1
 replace hs : Slots a 36 [(1, .int .u32 a1), (12, .int .i64 t4)] := hs1.keep [1, 12] (by kernel_rfl)
 clear hs1
 refine go_pvs 2 3 [1, 7] hs (L' := [(1, .int .u32 a1), (7, .int .i64 t4)]) (by kernel_rfl) ?_ rfl
 clear hs; intro a hs
 refine go_end (by kernel_rfl) ?_
 refine hK2 _ _ ?_
 refine go_seq_k fun K8 hK8 => ?_
 refine go_region ?_
 refine go_pvs 0 1 [7, 13] hs (L' := [(7, .int .i64 t4), (13, .int .u32 a1)]) (by kernel_rfl) ?_ rfl
 clear hs; intro a hs
 obtain ⟨t10, hx11, H⟩ := bind_some H
 refine go_call hs (op := (Op.call { callee := (Callee.value (Operand.func 52)), args := #[(Operand.tmp 13)], argTypes := #[22] })) (ty := 3) (dst := some 14) (g := none) (by kernel_rfl) (by kernel_rfl) (by kernel_rfl) (f := 52) (args := #[.int .u32 a1]) (by kernel_rfl) (rivetref01_signed.calls a1 t10 _ hx11) ?_
 rintro e wd12 ⟨rfl, hw13⟩
 refine ⟨_, rfl, ?_⟩
 replace hw := hw.call hw13
 intro a hs1
 replace hs : Slots a 36 [(7, .int .i64 t4), (14, .int .i64 t10)] := hs1.keep [7, 14] (by kernel_rfl)
 clear hs1
 refine go_pvs 2 3 [7, 8] hs (L' := [(7, .int .i64 t4), (8, .int .i64 t10)]) (by kernel_rfl) ?_ rfl
 clear hs; intro a hs
 refine go_end (by kernel_rfl) ?_
 refine hK8 _ _ ?_
 refine go_seq_k fun K14 hK14 => ?_
 refine go_seq_k fun K15 hK15 => ?_
 refine go_region ?_
 refine go_pvs 0 2 [7, 8, 16] hs (L' := [(7, .int .i64 t4), (8, .int .i64 t10), (16, .bool (decide (t10 ≤ 0)))]) (by kernel_rfl) ?_ rfl
 clear hs; intro a hs
 refine go_end (by kernel_rfl) ?_
 refine hK15 _ _ ?_
 refine go_cond hs (decide (t10 ≤ 0)) (by kernel_rfl) (fun hc => ?_) (fun hc => ?_)
 ·replace H := ite_t H (of_decide_eq_true hc)
  have hb16 := hc
  rw [hb16] at hs
  refine go_seq_k fun K17 hK17 => ?_
  refine go_region ?_
  refine go_pvs 0 3 [4, 5, 6] hs (L' := [(4, .int .u32 0), (5, .int .u32 0), (6, .bool false)]) (by kernel_rfl) ?_ rfl
  clear hs; intro a hs
  refine go_end (by kernel_rfl) ?_
  refine hK17 _ _ ?_
  refine wp_ret ?_
  refine th_ret ?_
  obtain rfl := Option.some.inj H
  refine ret3 (t1 := 4) (v1 := .int .u32 0) (t2 := 5) (v2 := .int .u32 0) (t3 := 6) (v3 := .bool false) hs (by kernel_rfl) (by kernel_rfl) (by kernel_rfl) (by kernel_rfl) ?_
  exact ⟨rfl, hw.only 0⟩
 ·replace H := ite_f H (of_decide_eq_false hc)
  have hb18 := hc
  rw [hb18] at hs
  refine wp_skip ?_
  refine hK14 _ _ ?_
  refine go_seq_k fun K19 hK19 => ?_
  refine go_region ?_
  refine go_pvs 0 2 [7, 8, 17, 18] hs (L' := [(7, .int .i64 t4), (8, .int .i64 t10), (17, .int .i64 t4), (18, .int .i64 t10)]) (by kernel_rfl) ?_ rfl
  clear hs; intro a hs
  obtain ⟨hp20, H⟩ := ite_only H
  refine go_run hs (op := (Op.binOp BinOp.quo 3 (Operand.tmp 17) (Operand.tmp 18) 3)) (ty := 3) (dst := some 19) (g := none) (by kernel_rfl) (by kernel_rfl) (by kernel_rfl) (x_quo (k := .i64) (m := t4) (n := t10) (by kernel_rfl) (by kernel_rfl) hp20) [7, 8, 19] (L' := [(7, .int .i64 t4), (8, .int .i64 t10), (19, .int .i64 (w64 (t4.tdiv t10)))]) (by kernel_rfl) ?_
  clear hs; intro a hs
  refine go_pvs 3 4 [7, 8, 9] hs (L' := [(7, .int .i64 t4), (8, .int .i64 t10), (9, .int .i64 (w64 (t4.tdiv t10)))]) (by kernel_rfl) ?_ rfl
  clear hs; intro a hs
  refine go_end (by kernel_rfl) ?_
  refine hK19 _ _ ?_
  refine go_seq_k fun K21 hK21 => ?_
  refine go_region ?_
  refine go_pvs 0 2 [8, 9, 20, 21] hs (L' := [(8, .int .i64 t10), (9, .int .i64 (w64 (t4.tdiv t10))), (20, .int .i64 t4), (21, .int .i64 t10)]) (by kernel_rfl) ?_ rfl
  clear hs; intro a hs
  obtain ⟨hp22, H⟩ := ite_only H
  refine go_run hs (op := (Op.binOp BinOp.rem 3 (Operand.tmp 20) (Operand.tmp 21) 3)) (ty := 3) (dst := some 22) (g := none) (by kernel_rfl) (by kernel_rfl) (by kernel_rfl) (x_rem (k := .i64) (m := t4) (n := t10) (by kernel_rfl) (by kernel_rfl) hp22) [8, 9, 22] (L' := [(8, .int .i64 t10), (9, .int .i64 (w64 (t4.tdiv t10))), (22, .int .i64 (t4.tmod t10))]) (by kernel_rfl) ?_
  clear hs; intro a hs
  refine go_pvs 3 4 [8, 9, 10] hs (L' := [(8, .int .i64 t10), (9, .int .i64 (w64 (t4.tdiv t10))), (10, .int .i64 (t4.tmod t10))]) (by kernel_rfl) ?_ rfl
  clear hs; intro a hs
  refine go_end (by kernel_rfl) ?_
  refine hK21 _ _ ?_
  refine go_seq_k fun K23 hK23 => ?_
  have hJ1 : ∀ (v28 : Int) (v29 : Int) (a : Act) (w : World), Slots a 36 [(9, .int .i64 v28), (10, .int .i64 v29)] → St [] w0 w [] → rivetref01_Div.j1 v28 v29 = some r → K23 a w := by
   intro v28 v29 a w hs hw H
   unfold rivetref01_Div.j1 at H
   refine hK23 _ _ ?_
   refine go_seq_k fun K30 hK30 => ?_
   refine go_region ?_
   refine go_pvs 0 9 [4, 5, 6] hs (L' := [(4, .int .u32 (wu32 ((w64 (v28 + 4294967296)).tmod 4294967296))), (5, .int .u32 (wu32 v29)), (6, .bool true)]) (by kernel_rfl) ?_ rfl
   clear hs; intro a hs
   refine go_end (by kernel_rfl) ?_
   refine hK30 _ _ ?_
   refine wp_ret ?_
   obtain rfl := Option.some.inj H
   refine ret3 (t1 := 4) (v1 := .int .u32 (wu32 ((w64 (v28 + 4294967296)).tmod 4294967296))) (t2 := 5) (v2 := .int .u32 (wu32 v29)) (t3 := 6) (v3 := .bool true) hs (by kernel_rfl) (by kernel_rfl) (by kernel_rfl) (by kernel_rfl) ?_
   exact ⟨rfl, hw.only 0⟩
  refine go_seq_k fun K24 hK24 => ?_
  refine go_region ?_
  refine go_pvs 0 2 [8, 9, 10, 24] hs (L' := [(8, .int .i64 t10), (9, .int .i64 (w64 (t4.tdiv t10))), (10, .int .i64 (t4.tmod t10)), (24, .bool (decide ((t4.tmod t10) < 0)))]) (by kernel_rfl) ?_ rfl
  clear hs; intro a hs
  refine go_end (by kernel_rfl) ?_
  refine hK24 _ _ ?_
  refine go_cond hs (decide ((t4.tmod t10) < 0)) (by kernel_rfl) (fun hc => ?_) (fun hc => ?_)
  ·replace H := ite_t H (of_decide_eq_true hc)
   have hb25 := hc
   rw [hb25] at hs
   refine go_seq_k fun K26 hK26 => ?_
   refine go_region ?_
   refine go_pvs 0 3 [8, 9, 10] hs (L' := [(8, .int .i64 t10), (9, .int .i64 (w64 ((w64 (t4.tdiv t10)) - 1))), (10, .int .i64 (t4.tmod t10))]) (by kernel_rfl) ?_ rfl
   clear hs; intro a hs
   refine go_end (by kernel_rfl) ?_
   refine hK26 _ _ ?_
   refine go_region ?_
   refine go_pvs 0 4 [9, 10] hs (L' := [(9, .int .i64 (w64 ((w64 (t4.tdiv t10)) - 1))), (10, .int .i64 (w64 ((t4.tmod t10) + t10)))]) (by kernel_rfl) ?_ rfl
   clear hs; intro a hs
   refine go_end (by kernel_rfl) ?_
   replace hw := hw.only 0
   exact hJ1 (w64 ((w64 (t4.tdiv t10)) - 1)) (w64 ((t4.tmod t10) + t10)) _ _ (hs.keep [9, 10] (by kernel_rfl)) hw H
  ·replace H := ite_f H (of_decide_eq_false hc)
   have hb27 := hc
   rw [hb27] at hs
   refine wp_skip ?_
   replace hw := hw.only 0
   exact hJ1 (w64 (t4.tdiv t10)) (t4.tmod t10) _ _ (hs.keep [9, 10] (by kernel_rfl)) hw H

/-! rivet/rivetref02.Fits: function 49 -/
noncomputable def rivetref02_Fits.j1 (v7 : Bool) : Option Bool := some v7
noncomputable def rivetref02_Fits (a0 : Int) (a1 : Int) : Option Bool := (if 0 ≤ (w64 ((mnn (mxx a1 1) 32) - 1)) then (if a0 ≥ (shl .i64 (-1) (w64 ((mnn (mxx a1 1) 32) - 1))) then (if 0 ≤ (w64 ((mnn (mxx a1 1) 32) - 1)) then rivetref02_Fits.j1 (decide (a0 < (shl .i64 1 (w64 ((mnn (mxx a1 1) 32) - 1))))) else none) else rivetref02_Fits.j1 false) else none)
set_option maxRecDepth 100000 in
set_option maxHeartbeats 4000000 in
theorem rivetref02_Fits.calls (a0 : Int) (a1 : Int) (r : Bool) (w0 : World) (H : rivetref02_Fits a0 a1 = some r) :
    Calls Try.prog 49 #[.int .i64 a0, .int .i64 a1] w0 fun e w' => e = .returned (.bool r) ∧ St [] w0 w' [] := by
 have hw : St [] w0 w0 [] := St.nil w0
 unfold rivetref02_Fits at H
 refine go_fn Try.func49 rfl 21 Try.ntmps49 [(0, .int .i64 a0), (1, .int .i64 a1)] (by kernel_rfl) rfl ?_
 intro a hs
 refine go_seq_k fun K1 hK1 => ?_
 refine go_region ?_
 refine go_pvs 0 1 [0, 1] hs (L' := [(0, .int .i64 a0), (1, .int .i64 a1)]) (by kernel_rfl) ?_ rfl
 clear hs; intro a hs
 refine go_end (by kernel_rfl) ?_
 refine hK1 _ _ ?_
 refine go_seq_k fun K2 hK2 => ?_
 refine go_region ?_
 refine go_pvs 0 4 [0, 5] hs (L' := [(0, .int .i64 a0), (5, .int .i64 (mnn (mxx a1 1) 32))]) (by kernel_rfl) ?_ rfl
 clear hs; intro a hs
 refine go_end (by kernel_rfl) ?_
 refine hK2 _ _ ?_
 refine go_seq_k fun K3 hK3 => ?_
 have hJ1 : ∀ (v7 : Bool) (a : Act) (w : World), Slots a 21 [(4, .bool v7)] → St [] w0 w [] → rivetref02_Fits.j1 v7 = some r → K3 a w := by
  intro v7 a w hs hw H
  unfold rivetref02_Fits.j1 at H
  refine hK3 _ _ ?_
  refine wp_ret ?_
  obtain rfl := Option.some.inj H
  refine ret1 (t := 4) (v := .bool v7) hs (by kernel_rfl) (by kernel_rfl) ?_
  exact ⟨rfl, hw.only 0⟩
 refine go_region ?_
 refine go_pvs 0 3 [0, 5, 9, 11] hs (L' := [(0, .int .i64 a0), (5, .int .i64 (mnn (mxx a1 1) 32)), (9, .int .i64 a0), (11, .int .i64 (w64 ((mnn (mxx a1 1) 32) - 1)))]) (by kernel_rfl) ?_ rfl
 clear hs; intro a hs
 obtain ⟨hp4, H⟩ := ite_only H
 refine go_run hs (op := (Op.binOp BinOp.shl 3 (Operand.const (Value.int IntKind.i64 (-1))) (Operand.tmp 11) 3)) (ty := 3) (dst := some 12) (g := none) (by kernel_rfl) (by kernel_rfl) (by kernel_rfl) (x_shl (k := .i64) (k' := .i64) (m := (-1)) (n := w64 ((mnn (mxx a1 1) 32) - 1)) (by kernel_rfl) (by kernel_rfl) hp4) [0, 5, 9, 12] (L' := [(0, .int .i64 a0), (5, .int .i64 (mnn (mxx a1 1) 32)), (9, .int .i64 a0), (12, .int .i64 (shl .i64 (-1) (w64 ((mnn (mxx a1 1) 32) - 1))))]) (by kernel_rfl) ?_
 clear hs; intro a hs
 refine go_pvs 4 6 [0, 5, 14] hs (L' := [(0, .int .i64 a0), (5, .int .i64 (mnn (mxx a1 1) 32)), (14, .bool (decide (a0 ≥ (shl .i64 (-1) (w64 ((mnn (mxx a1 1) 32) - 1))))))]) (by kernel_rfl) ?_ rfl
 clear hs; intro a hs
 cases hb5 : (decide (a0 ≥ (shl .i64 (-1) (w64 ((mnn (mxx a1 1) 32) - 1)))))
 ·replace H := ite_f H (of_decide_eq_false hb5)
  rw [hb5] at hs
  refine go_pvs 6 13 [4] hs (L' := [(4, .bool false)]) (by kernel_rfl) ?_ rfl
  clear hs; intro a hs
  refine go_end (by kernel_rfl) ?_
  replace hw := hw.only 0
  exact hJ1 false _ _ (hs.keep [4] (by kernel_rfl)) hw H
 ·replace H := ite_t H (of_decide_eq_true hb5)
  rw [hb5] at hs
  refine go_pvs 6 9 [14, 15, 17] hs (L' := [(14, .bool true), (15, .int .i64 a0), (17, .int .i64 (w64 ((mnn (mxx a1 1) 32) - 1)))]) (by kernel_rfl) ?_ rfl
  clear hs; intro a hs
  obtain ⟨hp6, H⟩ := ite_only H
  refine go_run hs (op := (Op.binOp BinOp.shl 3 (Operand.const (Value.int IntKind.i64 1)) (Operand.tmp 17) 3)) (ty := 3) (dst := some 18) (g := some (5, true)) (by kernel_rfl) (by kernel_rfl) (by kernel_rfl) (x_shl (k := .i64) (k' := .i64) (m := 1) (n := w64 ((mnn (mxx a1 1) 32) - 1)) (by kernel_rfl) (by kernel_rfl) hp6) [14, 15, 18] (L' := [(14, .bool true), (15, .int .i64 a0), (18, .int .i64 (shl .i64 1 (w64 ((mnn (mxx a1 1) 32) - 1))))]) (by kernel_rfl) ?_
  clear hs; intro a hs
  refine go_pvs 10 13 [4] hs (L' := [(4, .bool (decide (a0 < (shl .i64 1 (w64 ((mnn (mxx a1 1) 32) - 1))))))]) (by kernel_rfl) ?_ rfl
  clear hs; intro a hs
  refine go_end (by kernel_rfl) ?_
  replace hw := hw.only 0
  exact hJ1 (decide (a0 < (shl .i64 1 (w64 ((mnn (mxx a1 1) 32) - 1))))) _ _ (hs.keep [4] (by kernel_rfl)) hw H

/-! rivet/rivetref03.reg: function 48 -/
noncomputable def rivetref03_reg.j1 (v4 : Bool) : Option Bool := some v4
noncomputable def rivetref03_reg (a0 : Int) : Option Bool := (if a0 ≥ 0 then rivetref03_reg.j1 (decide (a0 ≤ 15)) else rivetref03_reg.j1 false)
set_option maxRecDepth 100000 in
set_option maxHeartbeats 4000000 in
theorem rivetref03_reg.calls (a0 : Int) (r : Bool) (w0 : World) (H : rivetref03_reg a0 = some r) :
    Calls Try.prog 48 #[.int .i64 a0] w0 fun e w' => e = .returned (.bool r) ∧ St [] w0 w' [] := by
 have hw : St [] w0 w0 [] := St.nil w0
 unfold rivetref03_reg at H
 refine go_fn Try.func48 rfl 9 Try.ntmps48 [(0, .int .i64 a0)] (by kernel_rfl) rfl ?_
 intro a hs
 refine go_seq_k fun K1 hK1 => ?_
 refine go_region ?_
 refine go_pvs 0 1 [0] hs (L' := [(0, .int .i64 a0)]) (by kernel_rfl) ?_ rfl
 clear hs; intro a hs
 refine go_end (by kernel_rfl) ?_
 refine hK1 _ _ ?_
 refine go_seq_k fun K2 hK2 => ?_
 have hJ1 : ∀ (v4 : Bool) (a : Act) (w : World), Slots a 9 [(2, .bool v4)] → St [] w0 w [] → rivetref03_reg.j1 v4 = some r → K2 a w := by
  intro v4 a w hs hw H
  unfold rivetref03_reg.j1 at H
  refine hK2 _ _ ?_
  refine wp_ret ?_
  obtain rfl := Option.some.inj H
  refine ret1 (t := 2) (v := .bool v4) hs (by kernel_rfl) (by kernel_rfl) ?_
  exact ⟨rfl, hw.only 0⟩
 refine go_region ?_
 refine go_pvs 0 3 [0, 5] hs (L' := [(0, .int .i64 a0), (5, .bool (decide (a0 ≥ 0)))]) (by kernel_rfl) ?_ rfl
 clear hs; intro a hs
 cases hb3 : (decide (a0 ≥ 0))
 ·replace H := ite_f H (of_decide_eq_false hb3)
  rw [hb3] at hs
  refine go_pvs 3 7 [2] hs (L' := [(2, .bool false)]) (by kernel_rfl) ?_ rfl
  clear hs; intro a hs
  refine go_end (by kernel_rfl) ?_
  replace hw := hw.only 0
  exact hJ1 false _ _ (hs.keep [2] (by kernel_rfl)) hw H
 ·replace H := ite_t H (of_decide_eq_true hb3)
  rw [hb3] at hs
  refine go_pvs 3 7 [2] hs (L' := [(2, .bool (decide (a0 ≤ 15)))]) (by kernel_rfl) ?_ rfl
  clear hs; intro a hs
  refine go_end (by kernel_rfl) ?_
  replace hw := hw.only 0
  exact hJ1 (decide (a0 ≤ 15)) _ _ (hs.keep [2] (by kernel_rfl)) hw H

/-! rivet/rivetref03.May: function 20 -/
noncomputable def rivetref03_May.j11 (v97 : Bool) : Option Bool := some v97
noncomputable def rivetref03_May.j10 (v88 : Sapi_Instr) (a0 : Sapi_Instr) (v91 : Bool) : Option Bool := (if ((v88.Kind == a0.Kind) && ((v88.Op == a0.Op) && ((v88.A == a0.A) && ((v88.B == a0.B) && ((v88.C == a0.C) && ((v88.Imm == a0.Imm) && ((v88.U == a0.U) && true))))))) = true then (if a0.Imm ≤ 65535 then (if a0.Imm ≥ (-65536) then (if a0.Imm ≥ 0 then rivetref03_May.j11 true else rivetref03_May.j11 (!v91)) else rivetref03_May.j11 false) else rivetref03_May.j11 false) else rivetref03_May.j11 false)
noncomputable def rivetref03_May.j9 (a0 : Sapi_Instr) (v88 : Sapi_Instr) : Option Bool := (if a0.Op = 0 then rivetref03_May.j10 v88 a0 a0.U else rivetref03_May.j10 v88 a0 false)
noncomputable def rivetref03_May.j8 (a0 : Sapi_Instr) (v70 : Sapi_Instr) : Option Bool := (if a0.Kind = 1 then some ((v70.Kind == a0.Kind) && ((v70.Op == a0.Op) && ((v70.A == a0.A) && ((v70.B == a0.B) && ((a0.C == a0.C) && ((v70.Imm == a0.Imm) && ((v70.U == a0.U) && true))))))) else (if a0.Op = 0 then rivetref03_May.j9 a0 ({ ({ v70 with Imm := a0.Imm } : Sapi_Instr) with U := a0.U } : Sapi_Instr) else rivetref03_May.j9 a0 ({ v70 with Imm := a0.Imm } : Sapi_Instr)))
noncomputable def rivetref03_May.j7 (v38 : Bool) (a0 : Sapi_Instr) (v63 : Sapi_Instr) : Option Bool := (if v38 = true then rivetref03_May.j8 a0 ({ v63 with U := a0.U } : Sapi_Instr) else rivetref03_May.j8 a0 v63)
noncomputable def rivetref03_May.j6 (a0 : Sapi_Instr) (v38 : Bool) : Option Bool := (if a0.Op = 0 then rivetref03_May.j7 v38 a0 ({ (⟨a0.Kind, 0, a0.A, 0, 0, 0, false⟩ : Sapi_Instr) with Op := a0.Op } : Sapi_Instr) else rivetref03_May.j7 v38 a0 ({ ({ (⟨a0.Kind, 0, a0.A, 0, 0, 0, false⟩ : Sapi_Instr) with Op := a0.Op } : Sapi_Instr) with B := a0.B } : Sapi_Instr))
noncomputable def rivetref03_May.j5 (a0 : Sapi_Instr) (v38 : Bool) (v53 : Bool) : Option Bool := (if v53 = true then some false else rivetref03_May.j6 a0 v38)
noncomputable def rivetref03_May.j13 (v127 : Bool) : Option Bool := some v127
noncomputable def rivetref03_May.j14 (v141 : Bool) : Option Bool := some v141
noncomputable def rivetref03_May.j15 (v161 : Bool) : Option Bool := some v161
noncomputable def rivetref03_May.j16 : Option Bool := some false
noncomputable def rivetref03_May.j12 (a0 : Sapi_Instr) (v103 : Bool) : Option Bool := (if v103 = true then some ((a0.Kind == a0.Kind) && ((0 == a0.Op) && ((a0.A == a0.A) && ((0 == a0.B) && ((0 == a0.C) && ((0 == a0.Imm) && ((false == a0.U) && true))))))) else (if a0.Kind = 5 then (if ((a0.Kind == a0.Kind) && ((a0.Op == a0.Op) && ((a0.A == a0.A) && ((a0.B == a0.B) && ((0 == a0.C) && ((a0.Imm == a0.Imm) && ((false == a0.U) && true))))))) = true then (if a0.Op ≥ 0 then (if a0.Op ≤ 3 then ((rivetref02_Fits a0.Imm 20).bind fun t123 => (rivetref03_May.j13 t123)) else rivetref03_May.j13 false) else rivetref03_May.j13 false) else rivetref03_May.j13 false) else (if a0.Kind = 6 then (if ((a0.Kind == a0.Kind) && ((a0.Op == a0.Op) && ((0 == a0.A) && ((0 == a0.B) && ((a0.C == a0.C) && ((0 == a0.Imm) && ((a0.U == a0.U) && true))))))) = true then ((rivetref03_reg a0.Op).bind fun t137 => (rivetref03_May.j14 t137)) else rivetref03_May.j14 false) else (if a0.Kind = 7 then (if ((a0.Kind == a0.Kind) && ((a0.Op == a0.Op) && ((0 == a0.A) && ((0 == a0.B) && ((0 == a0.C) && ((a0.Imm == a0.Imm) && ((a0.U == a0.U) && true))))))) = true then ((rivetref03_reg a0.Op).bind fun t151 => ((if t151 = true then ((rivetref02_Fits a0.Imm 24).bind fun t157 => (rivetref03_May.j15 t157)) else rivetref03_May.j15 false))) else rivetref03_May.j15 false) else rivetref03_May.j16))))
noncomputable def rivetref03_May.j4 (a0 : Sapi_Instr) (v38 : Bool) (v45 : Bool) : Option Bool := (if v45 = true then (if a0.Op < 0 then rivetref03_May.j5 a0 v38 true else rivetref03_May.j5 a0 v38 (decide (a0.Op > 11))) else (if a0.Kind = 3 then rivetref03_May.j12 a0 true else rivetref03_May.j12 a0 (a0.Kind == 4)))
noncomputable def rivetref03_May.j3 (a0 : Sapi_Instr) (v38 : Bool) : Option Bool := (if a0.Kind = 1 then rivetref03_May.j4 a0 v38 true else rivetref03_May.j4 a0 v38 (a0.Kind == 2))
noncomputable def rivetref03_May.j2 (a0 : Sapi_Instr) : Option Bool := (if a0.Op ≥ 8 then rivetref03_May.j3 a0 (decide (a0.Op ≤ 10)) else rivetref03_May.j3 a0 false)
noncomputable def rivetref03_May.j1 (a0 : Sapi_Instr) (v25 : Bool) : Option Bool := (if v25 = true then some false else rivetref03_May.j2 a0)
noncomputable def rivetref03_May (a0 : Sapi_Instr) : Option Bool := ((rivetref03_reg a0.A).bind fun t9 => ((if t9 = true then ((rivetref03_reg a0.B).bind fun t15 => ((if t15 = true then ((rivetref03_reg a0.C).bind fun t21 => (rivetref03_May.j1 a0 (!t21))) else rivetref03_May.j1 a0 true))) else rivetref03_May.j1 a0 true)))
set_option maxRecDepth 100000 in
set_option maxHeartbeats 4000000 in
theorem rivetref03_May.calls (a0 : Sapi_Instr) (r : Bool) (w0 : World) (H : rivetref03_May a0 = some r) :
    Calls Try.prog 20 #[.agg (eSapi_Instr.enc a0).toArray] w0 fun e w' => e = .returned (.bool r) ∧ St [] w0 w' [] := by
 have hw : St [] w0 w0 [] := St.nil w0
 unfold rivetref03_May at H
 refine go_fn Try.func20 rfl 186 Try.ntmps20 [(0, .agg (eSapi_Instr.enc a0).toArray)] (by kernel_rfl) rfl ?_
 intro a hs
 refine go_seq_k fun K1 hK1 => ?_
 refine go_region ?_
 obtain ⟨ad2, wd3, hx4, hw⟩ := x_box1 (P := Try.prog) (elem := 27) (v := (Operand.tmp 0)) (ty := 0) hs hw eSapi_Instr a0 (by kernel_rfl)
 refine go_run hs (op := (Op.box 27 (Operand.tmp 0))) (ty := 0) (dst := some 1) (g := none) (by kernel_rfl) (by kernel_rfl) (by kernel_rfl) hx4 [1] (L' := [(1, .pointer (some ad2))]) (by kernel_rfl) ?_
 clear hs; intro a hs
 refine go_pvs 1 2 [1] hs (L' := [(1, .pointer (some ad2))]) (by kernel_rfl) ?_ rfl
 clear hs; intro a hs
 refine go_end (by kernel_rfl) ?_
 refine hK1 _ _ ?_
 refine go_seq_k fun K6 hK6 => ?_
 have hJ2 : ∀ (a : Act) (w : World), Slots a 186 [(1, .pointer (some ad2))] → St [] w0 w [own 27 eSapi_Instr (some ad2) 1 [a0]] → rivetref03_May.j2 a0 = some r → K6 a w := by
  intro a w hs hw H
  unfold rivetref03_May.j2 at H
  refine hK6 _ _ ?_
  refine go_seq_k fun K29 hK29 => ?_
  refine go_region ?_
  refine go_pvs 0 1 [1, 22] hs (L' := [(1, .pointer (some ad2)), (22, .pointer (some ((ad2 : Addr).add 0)))]) (by kernel_rfl) ?_ rfl
  clear hs; intro a hs
  refine go_run hs (op := (Op.load 3 (Operand.tmp 22))) (ty := 3) (dst := some 23) (g := none) (by kernel_rfl) (by kernel_rfl) (by kernel_rfl) (x_ld (E := eSapi_Instr) (off := 0) (p := (ad2 : Addr).add 0) (v := .int .i64 a0.Kind) (Rd.of_own (hw.up 0)) (one_ok a0).1 (one_ok a0).2 (by kernel_rfl) (one_off _ _ _) (by kernel_rfl) (by kernel_rfl)) [1, 23] (L' := [(1, .pointer (some ad2)), (23, .int .i64 a0.Kind)]) (by kernel_rfl) ?_
  clear hs; intro a hs
  refine go_pvs 2 3 [1, 23, 24] hs (L' := [(1, .pointer (some ad2)), (23, .int .i64 a0.Kind), (24, .pointer (some ((ad2 : Addr).add 2)))]) (by kernel_rfl) ?_ rfl
  clear hs; intro a hs
  refine go_run hs (op := (Op.load 3 (Operand.tmp 24))) (ty := 3) (dst := some 25) (g := none) (by kernel_rfl) (by kernel_rfl) (by kernel_rfl) (x_ld (E := eSapi_Instr) (off := 2) (p := (ad2 : Addr).add 2) (v := .int .i64 a0.A) (Rd.of_own (hw.up 0)) (one_ok a0).1 (one_ok a0).2 (by kernel_rfl) (one_off _ _ _) (by kernel_rfl) (by kernel_rfl)) [1, 23, 25] (L' := [(1, .pointer (some ad2)), (23, .int .i64 a0.Kind), (25, .int .i64 a0.A)]) (by kernel_rfl) ?_
  clear hs; intro a hs
  refine go_pvs 4 5 [1, 26] hs (L' := [(1, .pointer (some ad2)), (26, .agg (eSapi_Instr.enc (⟨a0.Kind, 0, a0.A, 0, 0, 0, false⟩ : Sapi_Instr)).toArray)]) (by kernel_rfl) ?_ rfl
  clear hs; intro a hs
  obtain ⟨ad30, wd31, hx32, hw⟩ := x_alloc1 (P := Try.prog) (elem := 27) (ty := 0) (z := .agg (eSapi_Instr.enc (⟨0, 0, 0, 0, 0, 0, false⟩ : Sapi_Instr)).toArray) hs hw eSapi_Instr (⟨0, 0, 0, 0, 0, 0, false⟩ : Sapi_Instr) (by kernel_rfl) (by kernel_rfl)
  refine go_run hs (op := (Op.alloc 27)) (ty := 0) (dst := some 3) (g := none) (by kernel_rfl) (by kernel_rfl) (by kernel_rfl) hx32 [1, 3, 26] (L' := [(1, .pointer (some ad2)), (3, .pointer (some ad30)), (26, .agg (eSapi_Instr.enc (⟨a0.Kind, 0, a0.A, 0, 0, 0, false⟩ : Sapi_Instr)).toArray)]) (by kernel_rfl) ?_
  clear hs; intro a hs
  obtain ⟨wd34, hx35, hw⟩ := x_put (P := Try.prog) (ty := 0) (t := 27) (x := (Operand.tmp 3)) (y := (Operand.tmp 26)) (off := 0) (p := ad30) (v := .agg (eSapi_Instr.enc (⟨a0.Kind, 0, a0.A, 0, 0, 0, false⟩ : Sapi_Instr)).toArray) (vs := (eSapi_Instr.enc (⟨a0.Kind, 0, a0.A, 0, 0, 0, false⟩ : Sapi_Instr))) (i := 0) (e' := ((⟨a0.Kind, 0, a0.A, 0, 0, 0, false⟩ : Sapi_Instr) : Sapi_Instr)) hs hw rfl (one_ok (⟨0, 0, 0, 0, 0, 0, false⟩ : Sapi_Instr)).1 (one_ok (⟨0, 0, 0, 0, 0, 0, false⟩ : Sapi_Instr)).2 (by kernel_rfl) (one_at _ _) (by kernel_rfl) rfl (by kernel_rfl) (Nat.le_of_ble_eq_true rfl) (eSapi_Instr.one _) (by kernel_rfl)
  refine go_unit hs (op := (Op.store 27 (Operand.tmp 3) (Operand.tmp 26))) (ty := 0) (dst := none) (g := none) (by kernel_rfl) (by kernel_rfl) (by kernel_rfl) hx35 [1, 3] (L' := [(1, .pointer (some ad2)), (3, .pointer (some ad30))]) (by kernel_rfl) ?_
  clear hs; intro a hs
  replace hw : St [] w0 wd34 [own 27 eSapi_Instr (some ad30) 1 [(⟨a0.Kind, 0, a0.A, 0, 0, 0, false⟩ : Sapi_Instr)], own 27 eSapi_Instr (some ad2) 1 [a0]] := hw
  refine go_end (by kernel_rfl) ?_
  refine hK29 _ _ ?_
  refine go_seq_k fun K36 hK36 => ?_
  have hJ3 : ∀ (v38 : Bool) (a : Act) (w : World), Slots a 186 [(1, .pointer (some ad2)), (3, .pointer (some ad30)), (4, .bool v38)] → St [] w0 w [own 27 eSapi_Instr (some ad30) 1 [(⟨a0.Kind, 0, a0.A, 0, 0, 0, false⟩ : Sapi_Instr)], own 27 eSapi_Instr (some ad2) 1 [a0]] → rivetref03_May.j3 a0 v38 = some r → K36 a w := by
   intro v38 a w hs hw H
   unfold rivetref03_May.j3 at H
   refine hK36 _ _ ?_
   refine go_seq_k fun K39 hK39 => ?_
   have hJ16 : ∀ (a : Act) (w : World), Slots a 186 [] → St [] w0 w [own 27 eSapi_Instr (some ad30) 1 [(⟨a0.Kind, 0, a0.A, 0, 0, 0, false⟩ : Sapi_Instr)], own 27 eSapi_Instr (some ad2) 1 [a0]] → rivetref03_May.j16 = some r → K39 a w := by
    intro a w hs hw H
    unfold rivetref03_May.j16 at H
    refine hK39 _ _ ?_
    refine go_seq_k fun K163 hK163 => ?_
    refine go_region ?_
    refine go_pvs 0 1 [2] hs (L' := [(2, .bool false)]) (by kernel_rfl) ?_ rfl
    clear hs; intro a hs
    refine go_end (by kernel_rfl) ?_
    refine hK163 _ _ ?_
    refine wp_ret ?_
    obtain rfl := Option.some.inj H
    refine ret1 (t := 2) (v := .bool false) hs (by kernel_rfl) (by kernel_rfl) ?_
    exact ⟨rfl, hw.only 0⟩
   refine go_seq_k fun K40 hK40 => ?_
   refine go_region ?_
   refine go_pvs 0 1 [1, 3, 4, 35] hs (L' := [(1, .pointer (some ad2)), (3, .pointer (some ad30)), (4, .bool v38), (35, .pointer (some ((ad2 : Addr).add 0)))]) (by kernel_rfl) ?_ rfl
   clear hs; intro a hs
   refine go_run hs (op := (Op.load 3 (Operand.tmp 35))) (ty := 3) (dst := some 36) (g := none) (by kernel_rfl) (by kernel_rfl) (by kernel_rfl) (x_ld (E := eSapi_Instr) (off := 0) (p := (ad2 : Addr).add 0) (v := .int .i64 a0.Kind) (Rd.of_own (hw.up 1)) (one_ok a0).1 (one_ok a0).2 (by kernel_rfl) (one_off _ _ _) (by kernel_rfl) (by kernel_rfl)) [1, 3, 4, 36] (L' := [(1, .pointer (some ad2)), (3, .pointer (some ad30)), (4, .bool v38), (36, .int .i64 a0.Kind)]) (by kernel_rfl) ?_
   clear hs; intro a hs
   refine go_end (by kernel_rfl) ?_
   refine hK40 _ _ ?_
   refine wp_block ?_
   refine go_seq_k fun K41 hK41 => ?_
   have hJ4 : ∀ (v45 : Bool) (a : Act) (w : World), Slots a 186 [(1, .pointer (some ad2)), (3, .pointer (some ad30)), (4, .bool v38), (36, .int .i64 a0.Kind), (37, .bool v45)] → St [] w0 w [own 27 eSapi_Instr (some ad30) 1 [(⟨a0.Kind, 0, a0.A, 0, 0, 0, false⟩ : Sapi_Instr)], own 27 eSapi_Instr (some ad2) 1 [a0]] → rivetref03_May.j4 a0 v38 v45 = some r → K41 a w := by
    intro v45 a w hs hw H
    unfold rivetref03_May.j4 at H
    refine hK41 _ _ ?_
    refine go_cond hs v45 (by kernel_rfl) (fun hc => ?_) (fun hc => ?_)
    ·replace H := ite_t H hc
     have hb46 := hc
     rw [hb46] at hs
     refine go_seq_k fun K47 hK47 => ?_
     refine go_region ?_
     refine go_pvs 0 1 [1, 3, 4, 40] hs (L' := [(1, .pointer (some ad2)), (3, .pointer (some ad30)), (4, .bool v38), (40, .pointer (some ((ad2 : Addr).add 1)))]) (by kernel_rfl) ?_ rfl
     clear hs; intro a hs
     refine go_run hs (op := (Op.load 3 (Operand.tmp 40))) (ty := 3) (dst := some 41) (g := none) (by kernel_rfl) (by kernel_rfl) (by kernel_rfl) (x_ld (E := eSapi_Instr) (off := 1) (p := (ad2 : Addr).add 1) (v := .int .i64 a0.Op) (Rd.of_own (hw.up 1)) (one_ok a0).1 (one_ok a0).2 (by kernel_rfl) (one_off _ _ _) (by kernel_rfl) (by kernel_rfl)) [1, 3, 4, 41] (L' := [(1, .pointer (some ad2)), (3, .pointer (some ad30)), (4, .bool v38), (41, .int .i64 a0.Op)]) (by kernel_rfl) ?_
     clear hs; intro a hs
     refine go_pvs 2 3 [1, 3, 4, 41, 42] hs (L' := [(1, .pointer (some ad2)), (3, .pointer (some ad30)), (4, .bool v38), (41, .int .i64 a0.Op), (42, .pointer (some ((ad30 : Addr).add 1)))]) (by kernel_rfl) ?_ rfl
     clear hs; intro a hs
     obtain ⟨wd48, hx49, hw⟩ := x_put (P := Try.prog) (ty := 0) (t := 3) (x := (Operand.tmp 42)) (y := (Operand.tmp 41)) (off := 1) (p := (ad30 : Addr).add 1) (v := .int .i64 a0.Op) (vs := [.int .i64 a0.Op]) (i := 0) (e' := (({ (⟨a0.Kind, 0, a0.A, 0, 0, 0, false⟩ : Sapi_Instr) with Op := a0.Op } : Sapi_Instr) : Sapi_Instr)) hs hw rfl (one_ok (⟨a0.Kind, 0, a0.A, 0, 0, 0, false⟩ : Sapi_Instr)).1 (one_ok (⟨a0.Kind, 0, a0.A, 0, 0, 0, false⟩ : Sapi_Instr)).2 (by kernel_rfl) (one_off _ _ _) (by kernel_rfl) rfl (by kernel_rfl) (Nat.le_of_ble_eq_true rfl) (by simp [Value.oneCell']) (by kernel_rfl)
     refine go_unit hs (op := (Op.store 3 (Operand.tmp 42) (Operand.tmp 41))) (ty := 0) (dst := none) (g := none) (by kernel_rfl) (by kernel_rfl) (by kernel_rfl) hx49 [1, 3, 4] (L' := [(1, .pointer (some ad2)), (3, .pointer (some ad30)), (4, .bool v38)]) (by kernel_rfl) ?_
     clear hs; intro a hs
     replace hw : St [] w0 wd48 [own 27 eSapi_Instr (some ad30) 1 [({ (⟨a0.Kind, 0, a0.A, 0, 0, 0, false⟩ : Sapi_Instr) with Op := a0.Op } : Sapi_Instr)], own 27 eSapi_Instr (some ad2) 1 [a0]] := hw
     refine go_end (by kernel_rfl) ?_
     refine hK47 _ _ ?_
     refine go_seq_k fun K50 hK50 => ?_
     have hJ6 : ∀ (a : Act) (w : World), Slots a 186 [(1, .pointer (some ad2)), (3, .pointer (some ad30)), (4, .bool v38)] → St [] w0 w [own 27 eSapi_Instr (some ad30) 1 [({ (⟨a0.Kind, 0, a0.A, 0, 0, 0, false⟩ : Sapi_Instr) with Op := a0.Op } : Sapi_Instr)], own 27 eSapi_Instr (some ad2) 1 [a0]] → rivetref03_May.j6 a0 v38 = some r → K50 a w := by
      intro a w hs hw H
      unfold rivetref03_May.j6 at H
      refine hK50 _ _ ?_
      refine go_seq_k fun K57 hK57 => ?_
      have hJ7 : ∀ (v63 : Sapi_Instr) (a : Act) (w : World), Slots a 186 [(1, .pointer (some ad2)), (3, .pointer (some ad30)), (4, .bool v38)] → St [] w0 w [own 27 eSapi_Instr (some ad30) 1 [v63], own 27 eSapi_Instr (some ad2) 1 [a0]] → rivetref03_May.j7 v38 a0 v63 = some r → K57 a w := by
       intro v63 a w hs hw H
       unfold rivetref03_May.j7 at H
       refine hK57 _ _ ?_
       refine go_seq_k fun K64 hK64 => ?_
       have hJ8 : ∀ (v70 : Sapi_Instr) (a : Act) (w : World), Slots a 186 [(1, .pointer (some ad2)), (3, .pointer (some ad30))] → St [] w0 w [own 27 eSapi_Instr (some ad30) 1 [v70], own 27 eSapi_Instr (some ad2) 1 [a0]] → rivetref03_May.j8 a0 v70 = some r → K64 a w := by
        intro v70 a w hs hw H
        unfold rivetref03_May.j8 at H
        refine hK64 _ _ ?_
        refine go_seq_k fun K71 hK71 => ?_
        refine go_seq_k fun K72 hK72 => ?_
        refine go_region ?_
        refine go_pvs 0 1 [1, 3, 61] hs (L' := [(1, .pointer (some ad2)), (3, .pointer (some ad30)), (61, .pointer (some ((ad2 : Addr).add 0)))]) (by kernel_rfl) ?_ rfl
        clear hs; intro a hs
        refine go_run hs (op := (Op.load 3 (Operand.tmp 61))) (ty := 3) (dst := some 62) (g := none) (by kernel_rfl) (by kernel_rfl) (by kernel_rfl) (x_ld (E := eSapi_Instr) (off := 0) (p := (ad2 : Addr).add 0) (v := .int .i64 a0.Kind) (Rd.of_own (hw.up 1)) (one_ok a0).1 (one_ok a0).2 (by kernel_rfl) (one_off _ _ _) (by kernel_rfl) (by kernel_rfl)) [1, 3, 62] (L' := [(1, .pointer (some ad2)), (3, .pointer (some ad30)), (62, .int .i64 a0.Kind)]) (by kernel_rfl) ?_
        clear hs; intro a hs
        refine go_pvs 2 3 [1, 3, 63] hs (L' := [(1, .pointer (some ad2)), (3, .pointer (some ad30)), (63, .bool (a0.Kind == 1))]) (by kernel_rfl) ?_ rfl
        clear hs; intro a hs
        refine go_end (by kernel_rfl) ?_
        refine hK72 _ _ ?_
        refine go_cond hs (a0.Kind == 1) (by kernel_rfl) (fun hc => ?_) (fun hc => ?_)
        ·replace H := ite_t H (beq_iff_eq.1 hc)
         have hb73 := hc
         rw [hb73] at hs
         refine go_seq_k fun K74 hK74 => ?_
         refine go_region ?_
         refine go_pvs 0 1 [1, 3, 64] hs (L' := [(1, .pointer (some ad2)), (3, .pointer (some ad30)), (64, .pointer (some ((ad2 : Addr).add 4)))]) (by kernel_rfl) ?_ rfl
         clear hs; intro a hs
         refine go_run hs (op := (Op.load 3 (Operand.tmp 64))) (ty := 3) (dst := some 65) (g := none) (by kernel_rfl) (by kernel_rfl) (by kernel_rfl) (x_ld (E := eSapi_Instr) (off := 4) (p := (ad2 : Addr).add 4) (v := .int .i64 a0.C) (Rd.of_own (hw.up 1)) (one_ok a0).1 (one_ok a0).2 (by kernel_rfl) (one_off _ _ _) (by kernel_rfl) (by kernel_rfl)) [1, 3, 65] (L' := [(1, .pointer (some ad2)), (3, .pointer (some ad30)), (65, .int .i64 a0.C)]) (by kernel_rfl) ?_
         clear hs; intro a hs
         refine go_pvs 2 3 [1, 3, 65, 66] hs (L' := [(1, .pointer (some ad2)), (3, .pointer (some ad30)), (65, .int .i64 a0.C), (66, .pointer (some ((ad30 : Addr).add 4)))]) (by kernel_rfl) ?_ rfl
         clear hs; intro a hs
         obtain ⟨wd75, hx76, hw⟩ := x_put (P := Try.prog) (ty := 0) (t := 3) (x := (Operand.tmp 66)) (y := (Operand.tmp 65)) (off := 4) (p := (ad30 : Addr).add 4) (v := .int .i64 a0.C) (vs := [.int .i64 a0.C]) (i := 0) (e' := (({ v70 with C := a0.C } : Sapi_Instr) : Sapi_Instr)) hs hw rfl (one_ok ({ (⟨a0.Kind, 0, a0.A, 0, 0, 0, false⟩ : Sapi_Instr) with Op := a0.Op } : Sapi_Instr)).1 (one_ok ({ (⟨a0.Kind, 0, a0.A, 0, 0, 0, false⟩ : Sapi_Instr) with Op := a0.Op } : Sapi_Instr)).2 (by kernel_rfl) (one_off _ _ _) (by kernel_rfl) rfl (by kernel_rfl) (Nat.le_of_ble_eq_true rfl) (by simp [Value.oneCell']) (by kernel_rfl)
         refine go_unit hs (op := (Op.store 3 (Operand.tmp 66) (Operand.tmp 65))) (ty := 0) (dst := none) (g := none) (by kernel_rfl) (by kernel_rfl) (by kernel_rfl) hx76 [1, 3] (L' := [(1, .pointer (some ad2)), (3, .pointer (some ad30))]) (by kernel_rfl) ?_
         clear hs; intro a hs
         replace hw : St [] w0 wd75 [own 27 eSapi_Instr (some ad30) 1 [({ v70 with C := a0.C } : Sapi_Instr)], own 27 eSapi_Instr (some ad2) 1 [a0]] := hw
         refine go_end (by kernel_rfl) ?_
         refine hK74 _ _ ?_
         refine go_seq_k fun K77 hK77 => ?_
         refine go_region ?_
         refine go_run hs (op := (Op.load 27 (Operand.tmp 3))) (ty := 27) (dst := some 67) (g := none) (by kernel_rfl) (by kernel_rfl) (by kernel_rfl) (x_lds (E := eSapi_Instr) (off := 0) (p := ad30) (cs := (eSapi_Instr.enc ({ v70 with C := a0.C } : Sapi_Instr))) (Rd.of_own (hw.up 0)) (one_ok ({ v70 with C := a0.C } : Sapi_Instr)).1 (one_ok ({ v70 with C := a0.C } : Sapi_Instr)).2 (by kernel_rfl) (one_at _ _) (by kernel_rfl) (by kernel_rfl) (by kernel_rfl)) [1, 67] (L' := [(1, .pointer (some ad2)), (67, .agg (eSapi_Instr.enc ({ v70 with C := a0.C } : Sapi_Instr)).toArray)]) (by kernel_rfl) ?_
         clear hs; intro a hs
         refine go_run hs (op := (Op.load 27 (Operand.tmp 1))) (ty := 27) (dst := some 68) (g := none) (by kernel_rfl) (by kernel_rfl) (by kernel_rfl) (x_lds (E := eSapi_Instr) (off := 0) (p := ad2) (cs := (eSapi_Instr.enc a0)) (Rd.of_own (hw.up 1)) (one_ok a0).1 (one_ok a0).2 (by kernel_rfl) (one_at _ _) (by kernel_rfl) (by kernel_rfl) (by kernel_rfl)) [67, 68] (L' := [(67, .agg (eSapi_Instr.enc ({ v70 with C := a0.C } : Sapi_Instr)).toArray), (68, .agg (eSapi_Instr.enc a0).toArray)]) (by kernel_rfl) ?_
         clear hs; intro a hs
         refine go_run hs (op := (Op.binOp BinOp.eql 27 (Operand.tmp 67) (Operand.tmp 68) 27)) (ty := 4) (dst := some 69) (g := none) (by kernel_rfl) (by kernel_rfl) (by kernel_rfl) (x_eql (xs := (eSapi_Instr.enc ({ v70 with C := a0.C } : Sapi_Instr)).toArray) (ys := (eSapi_Instr.enc a0).toArray) (r := ((v70.Kind == a0.Kind) && ((v70.Op == a0.Op) && ((v70.A == a0.A) && ((v70.B == a0.B) && ((a0.C == a0.C) && ((v70.Imm == a0.Imm) && ((v70.U == a0.U) && true)))))))) (by kernel_rfl) (by kernel_rfl) (by kernel_rfl) (eq_struct Try.underlying27 (by kernel_rfl) (eq_cons (a := .int .i64 v70.Kind) (b := .int .i64 a0.Kind) (r := (v70.Kind == a0.Kind)) (s := ((v70.Op == a0.Op) && ((v70.A == a0.A) && ((v70.B == a0.B) && ((a0.C == a0.C) && ((v70.Imm == a0.Imm) && ((v70.U == a0.U) && true))))))) (by kernel_rfl) (part_pv (by kernel_rfl)) (part_pv (by kernel_rfl)) (eq_pv (by kernel_rfl)) (eq_cons (a := .int .i64 v70.Op) (b := .int .i64 a0.Op) (r := (v70.Op == a0.Op)) (s := ((v70.A == a0.A) && ((v70.B == a0.B) && ((a0.C == a0.C) && ((v70.Imm == a0.Imm) && ((v70.U == a0.U) && true)))))) (by kernel_rfl) (part_pv (by kernel_rfl)) (part_pv (by kernel_rfl)) (eq_pv (by kernel_rfl)) (eq_cons (a := .int .i64 v70.A) (b := .int .i64 a0.A) (r := (v70.A == a0.A)) (s := ((v70.B == a0.B) && ((a0.C == a0.C) && ((v70.Imm == a0.Imm) && ((v70.U == a0.U) && true))))) (by kernel_rfl) (part_pv (by kernel_rfl)) (part_pv (by kernel_rfl)) (eq_pv (by kernel_rfl)) (eq_cons (a := .int .i64 v70.B) (b := .int .i64 a0.B) (r := (v70.B == a0.B)) (s := ((a0.C == a0.C) && ((v70.Imm == a0.Imm) && ((v70.U == a0.U) && true)))) (by kernel_rfl) (part_pv (by kernel_rfl)) (part_pv (by kernel_rfl)) (eq_pv (by kernel_rfl)) (eq_cons (a := .int .i64 a0.C) (b := .int .i64 a0.C) (r := (a0.C == a0.C)) (s := ((v70.Imm == a0.Imm) && ((v70.U == a0.U) && true))) (by kernel_rfl) (part_pv (by kernel_rfl)) (part_pv (by kernel_rfl)) (eq_pv (by kernel_rfl)) (eq_cons (a := .int .i64 v70.Imm) (b := .int .i64 a0.Imm) (r := (v70.Imm == a0.Imm)) (s := ((v70.U == a0.U) && true)) (by kernel_rfl) (part_pv (by kernel_rfl)) (part_pv (by kernel_rfl)) (eq_pv (by kernel_rfl)) (eq_cons (a := .bool v70.U) (b := .bool a0.U) (r := (v70.U == a0.U)) (s := true) (by kernel_rfl) (part_pv (by kernel_rfl)) (part_pv (by kernel_rfl)) (eq_pv (by kernel_rfl)) eq_nil))))))))) [69] (L' := [(69, .bool ((v70.Kind == a0.Kind) && ((v70.Op == a0.Op) && ((v70.A == a0.A) && ((v70.B == a0.B) && ((a0.C == a0.C) && ((v70.Imm == a0.Imm) && ((v70.U == a0.U) && true))))))))]) (by kernel_rfl) ?_
         clear hs; intro a hs
         refine go_pvs 3 4 [2] hs (L' := [(2, .bool ((v70.Kind == a0.Kind) && ((v70.Op == a0.Op) && ((v70.A == a0.A) && ((v70.B == a0.B) && ((a0.C == a0.C) && ((v70.Imm == a0.Imm) && ((v70.U == a0.U) && true))))))))]) (by kernel_rfl) ?_ rfl
         clear hs; intro a hs
         refine go_end (by kernel_rfl) ?_
         refine hK77 _ _ ?_
         refine wp_ret ?_
         refine th_ret ?_
         refine ib_ret ?_
         refine th_ret ?_
         obtain rfl := Option.some.inj H
         refine ret1 (t := 2) (v := .bool ((v70.Kind == a0.Kind) && ((v70.Op == a0.Op) && ((v70.A == a0.A) && ((v70.B == a0.B) && ((a0.C == a0.C) && ((v70.Imm == a0.Imm) && ((v70.U == a0.U) && true)))))))) hs (by kernel_rfl) (by kernel_rfl) ?_
         exact ⟨rfl, hw.only 0⟩
        ·replace H := ite_f H (beq_eq_false_iff_ne.1 hc)
         have hb78 := hc
         rw [hb78] at hs
         refine wp_skip ?_
         refine hK71 _ _ ?_
         refine go_seq_k fun K79 hK79 => ?_
         refine go_region ?_
         refine go_pvs 0 1 [1, 3, 70] hs (L' := [(1, .pointer (some ad2)), (3, .pointer (some ad30)), (70, .pointer (some ((ad2 : Addr).add 5)))]) (by kernel_rfl) ?_ rfl
         clear hs; intro a hs
         refine go_run hs (op := (Op.load 3 (Operand.tmp 70))) (ty := 3) (dst := some 71) (g := none) (by kernel_rfl) (by kernel_rfl) (by kernel_rfl) (x_ld (E := eSapi_Instr) (off := 5) (p := (ad2 : Addr).add 5) (v := .int .i64 a0.Imm) (Rd.of_own (hw.up 1)) (one_ok a0).1 (one_ok a0).2 (by kernel_rfl) (one_off _ _ _) (by kernel_rfl) (by kernel_rfl)) [1, 3, 71] (L' := [(1, .pointer (some ad2)), (3, .pointer (some ad30)), (71, .int .i64 a0.Imm)]) (by kernel_rfl) ?_
         clear hs; intro a hs
         refine go_pvs 2 3 [1, 3, 71, 72] hs (L' := [(1, .pointer (some ad2)), (3, .pointer (some ad30)), (71, .int .i64 a0.Imm), (72, .pointer (some ((ad30 : Addr).add 5)))]) (by kernel_rfl) ?_ rfl
         clear hs; intro a hs
         obtain ⟨wd80, hx81, hw⟩ := x_put (P := Try.prog) (ty := 0) (t := 3) (x := (Operand.tmp 72)) (y := (Operand.tmp 71)) (off := 5) (p := (ad30 : Addr).add 5) (v := .int .i64 a0.Imm) (vs := [.int .i64 a0.Imm]) (i := 0) (e' := (({ v70 with Imm := a0.Imm } : Sapi_Instr) : Sapi_Instr)) hs hw rfl (one_ok ({ (⟨a0.Kind, 0, a0.A, 0, 0, 0, false⟩ : Sapi_Instr) with Op := a0.Op } : Sapi_Instr)).1 (one_ok ({ (⟨a0.Kind, 0, a0.A, 0, 0, 0, false⟩ : Sapi_Instr) with Op := a0.Op } : Sapi_Instr)).2 (by kernel_rfl) (one_off _ _ _) (by kernel_rfl) rfl (by kernel_rfl) (Nat.le_of_ble_eq_true rfl) (by simp [Value.oneCell']) (by kernel_rfl)
         refine go_unit hs (op := (Op.store 3 (Operand.tmp 72) (Operand.tmp 71))) (ty := 0) (dst := none) (g := none) (by kernel_rfl) (by kernel_rfl) (by kernel_rfl) hx81 [1, 3] (L' := [(1, .pointer (some ad2)), (3, .pointer (some ad30))]) (by kernel_rfl) ?_
         clear hs; intro a hs
         replace hw : St [] w0 wd80 [own 27 eSapi_Instr (some ad30) 1 [({ v70 with Imm := a0.Imm } : Sapi_Instr)], own 27 eSapi_Instr (some ad2) 1 [a0]] := hw
         refine go_end (by kernel_rfl) ?_
         refine hK79 _ _ ?_
         refine go_seq_k fun K82 hK82 => ?_
         have hJ9 : ∀ (v88 : Sapi_Instr) (a : Act) (w : World), Slots a 186 [(1, .pointer (some ad2)), (3, .pointer (some ad30))] → St [] w0 w [own 27 eSapi_Instr (some ad30) 1 [v88], own 27 eSapi_Instr (some ad2) 1 [a0]] → rivetref03_May.j9 a0 v88 = some r → K82 a w := by
          intro v88 a w hs hw H
          unfold rivetref03_May.j9 at H
          refine hK82 _ _ ?_
          refine go_seq_k fun K89 hK89 => ?_
          have hJ10 : ∀ (v91 : Bool) (a : Act) (w : World), Slots a 186 [(1, .pointer (some ad2)), (3, .pointer (some ad30)), (5, .bool v91)] → St [] w0 w [own 27 eSapi_Instr (some ad30) 1 [v88], own 27 eSapi_Instr (some ad2) 1 [a0]] → rivetref03_May.j10 v88 a0 v91 = some r → K89 a w := by
           intro v91 a w hs hw H
           unfold rivetref03_May.j10 at H
           refine hK89 _ _ ?_
           refine go_seq_k fun K92 hK92 => ?_
           have hJ11 : ∀ (v97 : Bool) (a : Act) (w : World), Slots a 186 [(2, .bool v97)] → St [] w0 w [own 27 eSapi_Instr (some ad30) 1 [v88], own 27 eSapi_Instr (some ad2) 1 [a0]] → rivetref03_May.j11 v97 = some r → K92 a w := by
            intro v97 a w hs hw H
            unfold rivetref03_May.j11 at H
            refine hK92 _ _ ?_
            refine wp_ret ?_
            refine ib_ret ?_
            refine th_ret ?_
            obtain rfl := Option.some.inj H
            refine ret1 (t := 2) (v := .bool v97) hs (by kernel_rfl) (by kernel_rfl) ?_
            exact ⟨rfl, hw.only 0⟩
           refine go_region ?_
           refine go_run hs (op := (Op.load 27 (Operand.tmp 3))) (ty := 27) (dst := some 86) (g := none) (by kernel_rfl) (by kernel_rfl) (by kernel_rfl) (x_lds (E := eSapi_Instr) (off := 0) (p := ad30) (cs := (eSapi_Instr.enc v88)) (Rd.of_own (hw.up 0)) (one_ok ({ v70 with Imm := a0.Imm } : Sapi_Instr)).1 (one_ok ({ v70 with Imm := a0.Imm } : Sapi_Instr)).2 (by kernel_rfl) (one_at _ _) (by kernel_rfl) (by kernel_rfl) (by kernel_rfl)) [1, 5, 86] (L' := [(1, .pointer (some ad2)), (5, .bool v91), (86, .agg (eSapi_Instr.enc v88).toArray)]) (by kernel_rfl) ?_
           clear hs; intro a hs
           refine go_run hs (op := (Op.load 27 (Operand.tmp 1))) (ty := 27) (dst := some 87) (g := none) (by kernel_rfl) (by kernel_rfl) (by kernel_rfl) (x_lds (E := eSapi_Instr) (off := 0) (p := ad2) (cs := (eSapi_Instr.enc a0)) (Rd.of_own (hw.up 1)) (one_ok a0).1 (one_ok a0).2 (by kernel_rfl) (one_at _ _) (by kernel_rfl) (by kernel_rfl) (by kernel_rfl)) [1, 5, 86, 87] (L' := [(1, .pointer (some ad2)), (5, .bool v91), (86, .agg (eSapi_Instr.enc v88).toArray), (87, .agg (eSapi_Instr.enc a0).toArray)]) (by kernel_rfl) ?_
           clear hs; intro a hs
           refine go_run hs (op := (Op.binOp BinOp.eql 27 (Operand.tmp 86) (Operand.tmp 87) 27)) (ty := 4) (dst := some 88) (g := none) (by kernel_rfl) (by kernel_rfl) (by kernel_rfl) (x_eql (xs := (eSapi_Instr.enc v88).toArray) (ys := (eSapi_Instr.enc a0).toArray) (r := ((v88.Kind == a0.Kind) && ((v88.Op == a0.Op) && ((v88.A == a0.A) && ((v88.B == a0.B) && ((v88.C == a0.C) && ((v88.Imm == a0.Imm) && ((v88.U == a0.U) && true)))))))) (by kernel_rfl) (by kernel_rfl) (by kernel_rfl) (eq_struct Try.underlying27 (by kernel_rfl) (eq_cons (a := .int .i64 v88.Kind) (b := .int .i64 a0.Kind) (r := (v88.Kind == a0.Kind)) (s := ((v88.Op == a0.Op) && ((v88.A == a0.A) && ((v88.B == a0.B) && ((v88.C == a0.C) && ((v88.Imm == a0.Imm) && ((v88.U == a0.U) && true))))))) (by kernel_rfl) (part_pv (by kernel_rfl)) (part_pv (by kernel_rfl)) (eq_pv (by kernel_rfl)) (eq_cons (a := .int .i64 v88.Op) (b := .int .i64 a0.Op) (r := (v88.Op == a0.Op)) (s := ((v88.A == a0.A) && ((v88.B == a0.B) && ((v88.C == a0.C) && ((v88.Imm == a0.Imm) && ((v88.U == a0.U) && true)))))) (by kernel_rfl) (part_pv (by kernel_rfl)) (part_pv (by kernel_rfl)) (eq_pv (by kernel_rfl)) (eq_cons (a := .int .i64 v88.A) (b := .int .i64 a0.A) (r := (v88.A == a0.A)) (s := ((v88.B == a0.B) && ((v88.C == a0.C) && ((v88.Imm == a0.Imm) && ((v88.U == a0.U) && true))))) (by kernel_rfl) (part_pv (by kernel_rfl)) (part_pv (by kernel_rfl)) (eq_pv (by kernel_rfl)) (eq_cons (a := .int .i64 v88.B) (b := .int .i64 a0.B) (r := (v88.B == a0.B)) (s := ((v88.C == a0.C) && ((v88.Imm == a0.Imm) && ((v88.U == a0.U) && true)))) (by kernel_rfl) (part_pv (by kernel_rfl)) (part_pv (by kernel_rfl)) (eq_pv (by kernel_rfl)) (eq_cons (a := .int .i64 v88.C) (b := .int .i64 a0.C) (r := (v88.C == a0.C)) (s := ((v88.Imm == a0.Imm) && ((v88.U == a0.U) && true))) (by kernel_rfl) (part_pv (by kernel_rfl)) (part_pv (by kernel_rfl)) (eq_pv (by kernel_rfl)) (eq_cons (a := .int .i64 v88.Imm) (b := .int .i64 a0.Imm) (r := (v88.Imm == a0.Imm)) (s := ((v88.U == a0.U) && true)) (by kernel_rfl) (part_pv (by kernel_rfl)) (part_pv (by kernel_rfl)) (eq_pv (by kernel_rfl)) (eq_cons (a := .bool v88.U) (b := .bool a0.U) (r := (v88.U == a0.U)) (s := true) (by kernel_rfl) (part_pv (by kernel_rfl)) (part_pv (by kernel_rfl)) (eq_pv (by kernel_rfl)) eq_nil))))))))) [1, 5, 88] (L' := [(1, .pointer (some ad2)), (5, .bool v91), (88, .bool ((v88.Kind == a0.Kind) && ((v88.Op == a0.Op) && ((v88.A == a0.A) && ((v88.B == a0.B) && ((v88.C == a0.C) && ((v88.Imm == a0.Imm) && ((v88.U == a0.U) && true))))))))]) (by kernel_rfl) ?_
           clear hs; intro a hs
           refine go_pvs 3 4 [1, 5, 89] hs (L' := [(1, .pointer (some ad2)), (5, .bool v91), (89, .bool ((v88.Kind == a0.Kind) && ((v88.Op == a0.Op) && ((v88.A == a0.A) && ((v88.B == a0.B) && ((v88.C == a0.C) && ((v88.Imm == a0.Imm) && ((v88.U == a0.U) && true))))))))]) (by kernel_rfl) ?_ rfl
           clear hs; intro a hs
           cases hb93 : ((v88.Kind == a0.Kind) && ((v88.Op == a0.Op) && ((v88.A == a0.A) && ((v88.B == a0.B) && ((v88.C == a0.C) && ((v88.Imm == a0.Imm) && ((v88.U == a0.U) && true)))))))
           ·replace H := ite_f H (ff hb93)
            rw [hb93] at hs
            refine go_pvs 4 23 [2] hs (L' := [(2, .bool false)]) (by kernel_rfl) ?_ rfl
            clear hs; intro a hs
            refine go_end (by kernel_rfl) ?_
            replace hw := hw.up 1
            replace hw := hw.up 1
            replace hw := hw.only 2
            exact hJ11 false _ _ (hs.keep [2] (by kernel_rfl)) hw H
           ·replace H := ite_t H hb93
            rw [hb93] at hs
            refine go_pvs 4 5 [1, 5, 89, 90] hs (L' := [(1, .pointer (some ad2)), (5, .bool v91), (89, .bool true), (90, .pointer (some ((ad2 : Addr).add 5)))]) (by kernel_rfl) ?_ rfl
            clear hs; intro a hs
            refine go_run hs (op := (Op.load 3 (Operand.tmp 90))) (ty := 3) (dst := some 91) (g := some (3, true)) (by kernel_rfl) (by kernel_rfl) (by kernel_rfl) (x_ld (E := eSapi_Instr) (off := 5) (p := (ad2 : Addr).add 5) (v := .int .i64 a0.Imm) (Rd.of_own (hw.up 1)) (one_ok a0).1 (one_ok a0).2 (by kernel_rfl) (one_off _ _ _) (by kernel_rfl) (by kernel_rfl)) [1, 5, 89, 91] (L' := [(1, .pointer (some ad2)), (5, .bool v91), (89, .bool true), (91, .int .i64 a0.Imm)]) (by kernel_rfl) ?_
            clear hs; intro a hs
            refine go_pvs 6 9 [1, 5, 94] hs (L' := [(1, .pointer (some ad2)), (5, .bool v91), (94, .bool (decide (a0.Imm ≤ 65535)))]) (by kernel_rfl) ?_ rfl
            clear hs; intro a hs
            cases hb94 : (decide (a0.Imm ≤ 65535))
            ·replace H := ite_f H (of_decide_eq_false hb94)
             rw [hb94] at hs
             refine go_pvs 9 23 [2] hs (L' := [(2, .bool false)]) (by kernel_rfl) ?_ rfl
             clear hs; intro a hs
             refine go_end (by kernel_rfl) ?_
             replace hw := hw.up 1
             replace hw := hw.up 1
             replace hw := hw.only 2
             exact hJ11 false _ _ (hs.keep [2] (by kernel_rfl)) hw H
            ·replace H := ite_t H (of_decide_eq_true hb94)
             rw [hb94] at hs
             refine go_pvs 9 10 [1, 5, 94, 95] hs (L' := [(1, .pointer (some ad2)), (5, .bool v91), (94, .bool true), (95, .pointer (some ((ad2 : Addr).add 5)))]) (by kernel_rfl) ?_ rfl
             clear hs; intro a hs
             refine go_run hs (op := (Op.load 3 (Operand.tmp 95))) (ty := 3) (dst := some 96) (g := some (8, true)) (by kernel_rfl) (by kernel_rfl) (by kernel_rfl) (x_ld (E := eSapi_Instr) (off := 5) (p := (ad2 : Addr).add 5) (v := .int .i64 a0.Imm) (Rd.of_own (hw.up 1)) (one_ok a0).1 (one_ok a0).2 (by kernel_rfl) (one_off _ _ _) (by kernel_rfl) (by kernel_rfl)) [1, 5, 94, 96] (L' := [(1, .pointer (some ad2)), (5, .bool v91), (94, .bool true), (96, .int .i64 a0.Imm)]) (by kernel_rfl) ?_
             clear hs; intro a hs
             refine go_pvs 11 14 [1, 5, 99] hs (L' := [(1, .pointer (some ad2)), (5, .bool v91), (99, .bool (decide (a0.Imm ≥ (-65536))))]) (by kernel_rfl) ?_ rfl
             clear hs; intro a hs
             cases hb95 : (decide (a0.Imm ≥ (-65536)))
             ·replace H := ite_f H (of_decide_eq_false hb95)
              rw [hb95] at hs
              refine go_pvs 14 23 [2] hs (L' := [(2, .bool false)]) (by kernel_rfl) ?_ rfl
              clear hs; intro a hs
              refine go_end (by kernel_rfl) ?_
              replace hw := hw.up 1
              replace hw := hw.up 1
              replace hw := hw.only 2
              exact hJ11 false _ _ (hs.keep [2] (by kernel_rfl)) hw H
             ·replace H := ite_t H (of_decide_eq_true hb95)
              rw [hb95] at hs
              refine go_pvs 14 15 [5, 99, 100] hs (L' := [(5, .bool v91), (99, .bool true), (100, .pointer (some ((ad2 : Addr).add 5)))]) (by kernel_rfl) ?_ rfl
              clear hs; intro a hs
              refine go_run hs (op := (Op.load 3 (Operand.tmp 100))) (ty := 3) (dst := some 101) (g := some (13, true)) (by kernel_rfl) (by kernel_rfl) (by kernel_rfl) (x_ld (E := eSapi_Instr) (off := 5) (p := (ad2 : Addr).add 5) (v := .int .i64 a0.Imm) (Rd.of_own (hw.up 1)) (one_ok a0).1 (one_ok a0).2 (by kernel_rfl) (one_off _ _ _) (by kernel_rfl) (by kernel_rfl)) [5, 99, 101] (L' := [(5, .bool v91), (99, .bool true), (101, .int .i64 a0.Imm)]) (by kernel_rfl) ?_
              clear hs; intro a hs
              refine go_pvs 16 18 [5, 99, 103] hs (L' := [(5, .bool v91), (99, .bool true), (103, .bool (decide (a0.Imm ≥ 0)))]) (by kernel_rfl) ?_ rfl
              clear hs; intro a hs
              cases hb96 : (decide (a0.Imm ≥ 0))
              ·replace H := ite_f H (of_decide_eq_false hb96)
               rw [hb96] at hs
               refine go_pvs 18 23 [2] hs (L' := [(2, .bool (!v91))]) (by kernel_rfl) ?_ rfl
               clear hs; intro a hs
               refine go_end (by kernel_rfl) ?_
               replace hw := hw.up 1
               replace hw := hw.up 1
               replace hw := hw.only 2
               exact hJ11 (!v91) _ _ (hs.keep [2] (by kernel_rfl)) hw H
              ·replace H := ite_t H (of_decide_eq_true hb96)
               rw [hb96] at hs
               refine go_pvs 18 23 [2] hs (L' := [(2, .bool true)]) (by kernel_rfl) ?_ rfl
               clear hs; intro a hs
               refine go_end (by kernel_rfl) ?_
               replace hw := hw.up 1
               replace hw := hw.up 1
               replace hw := hw.only 2
               exact hJ11 true _ _ (hs.keep [2] (by kernel_rfl)) hw H
          refine go_region ?_
          refine go_pvs 0 1 [1, 3, 79] hs (L' := [(1, .pointer (some ad2)), (3, .pointer (some ad30)), (79, .pointer (some ((ad2 : Addr).add 1)))]) (by kernel_rfl) ?_ rfl
          clear hs; intro a hs
          refine go_run hs (op := (Op.load 3 (Operand.tmp 79))) (ty := 3) (dst := some 80) (g := none) (by kernel_rfl) (by kernel_rfl) (by kernel_rfl) (x_ld (E := eSapi_Instr) (off := 1) (p := (ad2 : Addr).add 1) (v := .int .i64 a0.Op) (Rd.of_own (hw.up 1)) (one_ok a0).1 (one_ok a0).2 (by kernel_rfl) (one_off _ _ _) (by kernel_rfl) (by kernel_rfl)) [1, 3, 80] (L' := [(1, .pointer (some ad2)), (3, .pointer (some ad30)), (80, .int .i64 a0.Op)]) (by kernel_rfl) ?_
          clear hs; intro a hs
          refine go_pvs 2 4 [1, 3, 82] hs (L' := [(1, .pointer (some ad2)), (3, .pointer (some ad30)), (82, .bool (a0.Op == 0))]) (by kernel_rfl) ?_ rfl
          clear hs; intro a hs
          cases hb90 : (a0.Op == 0)
          ·replace H := ite_f H (beq_eq_false_iff_ne.1 hb90)
           rw [hb90] at hs
           refine go_pvs 4 8 [1, 3, 5] hs (L' := [(1, .pointer (some ad2)), (3, .pointer (some ad30)), (5, .bool false)]) (by kernel_rfl) ?_ rfl
           clear hs; intro a hs
           refine go_end (by kernel_rfl) ?_
           replace hw := hw.up 1
           replace hw := hw.up 1
           replace hw := hw.only 2
           exact hJ10 false _ _ (hs.keep [1, 3, 5] (by kernel_rfl)) hw H
          ·replace H := ite_t H (beq_iff_eq.1 hb90)
           rw [hb90] at hs
           refine go_pvs 4 5 [1, 3, 82, 83] hs (L' := [(1, .pointer (some ad2)), (3, .pointer (some ad30)), (82, .bool true), (83, .pointer (some ((ad2 : Addr).add 6)))]) (by kernel_rfl) ?_ rfl
           clear hs; intro a hs
           refine go_run hs (op := (Op.load 4 (Operand.tmp 83))) (ty := 4) (dst := some 84) (g := some (3, true)) (by kernel_rfl) (by kernel_rfl) (by kernel_rfl) (x_ld (E := eSapi_Instr) (off := 6) (p := (ad2 : Addr).add 6) (v := .bool a0.U) (Rd.of_own (hw.up 1)) (one_ok a0).1 (one_ok a0).2 (by kernel_rfl) (one_off _ _ _) (by kernel_rfl) (by kernel_rfl)) [1, 3, 82, 84] (L' := [(1, .pointer (some ad2)), (3, .pointer (some ad30)), (82, .bool true), (84, .bool a0.U)]) (by kernel_rfl) ?_
           clear hs; intro a hs
           refine go_pvs 6 8 [1, 3, 5] hs (L' := [(1, .pointer (some ad2)), (3, .pointer (some ad30)), (5, .bool a0.U)]) (by kernel_rfl) ?_ rfl
           clear hs; intro a hs
           refine go_end (by kernel_rfl) ?_
           replace hw := hw.up 1
           replace hw := hw.up 1
           replace hw := hw.only 2
           exact hJ10 a0.U _ _ (hs.keep [1, 3, 5] (by kernel_rfl)) hw H
         refine go_seq_k fun K83 hK83 => ?_
         refine go_region ?_
         refine go_pvs 0 1 [1, 3, 73] hs (L' := [(1, .pointer (some ad2)), (3, .pointer (some ad30)), (73, .pointer (some ((ad2 : Addr).add 1)))]) (by kernel_rfl) ?_ rfl
         clear hs; intro a hs
         refine go_run hs (op := (Op.load 3 (Operand.tmp 73))) (ty := 3) (dst := some 74) (g := none) (by kernel_rfl) (by kernel_rfl) (by kernel_rfl) (x_ld (E := eSapi_Instr) (off := 1) (p := (ad2 : Addr).add 1) (v := .int .i64 a0.Op) (Rd.of_own (hw.up 1)) (one_ok a0).1 (one_ok a0).2 (by kernel_rfl) (one_off _ _ _) (by kernel_rfl) (by kernel_rfl)) [1, 3, 74] (L' := [(1, .pointer (some ad2)), (3, .pointer (some ad30)), (74, .int .i64 a0.Op)]) (by kernel_rfl) ?_
         clear hs; intro a hs
         refine go_pvs 2 3 [1, 3, 75] hs (L' := [(1, .pointer (some ad2)), (3, .pointer (some ad30)), (75, .bool (a0.Op == 0))]) (by kernel_rfl) ?_ rfl
         clear hs; intro a hs
         refine go_end (by kernel_rfl) ?_
         refine hK83 _ _ ?_
         refine go_cond hs (a0.Op == 0) (by kernel_rfl) (fun hc => ?_) (fun hc => ?_)
         ·replace H := ite_t H (beq_iff_eq.1 hc)
          have hb84 := hc
          rw [hb84] at hs
          refine go_region ?_
          refine go_pvs 0 1 [1, 3, 76] hs (L' := [(1, .pointer (some ad2)), (3, .pointer (some ad30)), (76, .pointer (some ((ad2 : Addr).add 6)))]) (by kernel_rfl) ?_ rfl
          clear hs; intro a hs
          refine go_run hs (op := (Op.load 4 (Operand.tmp 76))) (ty := 4) (dst := some 77) (g := none) (by kernel_rfl) (by kernel_rfl) (by kernel_rfl) (x_ld (E := eSapi_Instr) (off := 6) (p := (ad2 : Addr).add 6) (v := .bool a0.U) (Rd.of_own (hw.up 1)) (one_ok a0).1 (one_ok a0).2 (by kernel_rfl) (one_off _ _ _) (by kernel_rfl) (by kernel_rfl)) [1, 3, 77] (L' := [(1, .pointer (some ad2)), (3, .pointer (some ad30)), (77, .bool a0.U)]) (by kernel_rfl) ?_
          clear hs; intro a hs
          refine go_pvs 2 3 [1, 3, 77, 78] hs (L' := [(1, .pointer (some ad2)), (3, .pointer (some ad30)), (77, .bool a0.U), (78, .pointer (some ((ad30 : Addr).add 6)))]) (by kernel_rfl) ?_ rfl
          clear hs; intro a hs
          obtain ⟨wd85, hx86, hw⟩ := x_put (P := Try.prog) (ty := 0) (t := 4) (x := (Operand.tmp 78)) (y := (Operand.tmp 77)) (off := 6) (p := (ad30 : Addr).add 6) (v := .bool a0.U) (vs := [.bool a0.U]) (i := 0) (e' := (({ ({ v70 with Imm := a0.Imm } : Sapi_Instr) with U := a0.U } : Sapi_Instr) : Sapi_Instr)) hs hw rfl (one_ok ({ v70 with Imm := a0.Imm } : Sapi_Instr)).1 (one_ok ({ v70 with Imm := a0.Imm } : Sapi_Instr)).2 (by kernel_rfl) (one_off _ _ _) (by kernel_rfl) rfl (by kernel_rfl) (Nat.le_of_ble_eq_true rfl) (by simp [Value.oneCell']) (by kernel_rfl)
          refine go_unit hs (op := (Op.store 4 (Operand.tmp 78) (Operand.tmp 77))) (ty := 0) (dst := none) (g := none) (by kernel_rfl) (by kernel_rfl) (by kernel_rfl) hx86 [1, 3] (L' := [(1, .pointer (some ad2)), (3, .pointer (some ad30))]) (by kernel_rfl) ?_
          clear hs; intro a hs
          replace hw : St [] w0 wd85 [own 27 eSapi_Instr (some ad30) 1 [({ ({ v70 with Imm := a0.Imm } : Sapi_Instr) with U := a0.U } : Sapi_Instr)], own 27 eSapi_Instr (some ad2) 1 [a0]] := hw
          refine go_end (by kernel_rfl) ?_
          replace hw := hw.up 1
          replace hw := hw.up 1
          replace hw := hw.only 2
          exact hJ9 ({ ({ v70 with Imm := a0.Imm } : Sapi_Instr) with U := a0.U } : Sapi_Instr) _ _ (hs.keep [1, 3] (by kernel_rfl)) hw H
         ·replace H := ite_f H (beq_eq_false_iff_ne.1 hc)
          have hb87 := hc
          rw [hb87] at hs
          refine wp_skip ?_
          replace hw := hw.up 1
          replace hw := hw.up 1
          replace hw := hw.only 2
          exact hJ9 ({ v70 with Imm := a0.Imm } : Sapi_Instr) _ _ (hs.keep [1, 3] (by kernel_rfl)) hw H
       refine go_seq_k fun K65 hK65 => ?_
       refine go_region ?_
       refine go_pvs 0 1 [1, 3, 57] hs (L' := [(1, .pointer (some ad2)), (3, .pointer (some ad30)), (57, .bool v38)]) (by kernel_rfl) ?_ rfl
       clear hs; intro a hs
       refine go_end (by kernel_rfl) ?_
       refine hK65 _ _ ?_
       refine go_cond hs v38 (by kernel_rfl) (fun hc => ?_) (fun hc => ?_)
       ·replace H := ite_t H hc
        have hb66 := hc
        rw [hb66] at hs
        refine go_region ?_
        refine go_pvs 0 1 [1, 3, 58] hs (L' := [(1, .pointer (some ad2)), (3, .pointer (some ad30)), (58, .pointer (some ((ad2 : Addr).add 6)))]) (by kernel_rfl) ?_ rfl
        clear hs; intro a hs
        refine go_run hs (op := (Op.load 4 (Operand.tmp 58))) (ty := 4) (dst := some 59) (g := none) (by kernel_rfl) (by kernel_rfl) (by kernel_rfl) (x_ld (E := eSapi_Instr) (off := 6) (p := (ad2 : Addr).add 6) (v := .bool a0.U) (Rd.of_own (hw.up 1)) (one_ok a0).1 (one_ok a0).2 (by kernel_rfl) (one_off _ _ _) (by kernel_rfl) (by kernel_rfl)) [1, 3, 59] (L' := [(1, .pointer (some ad2)), (3, .pointer (some ad30)), (59, .bool a0.U)]) (by kernel_rfl) ?_
        clear hs; intro a hs
        refine go_pvs 2 3 [1, 3, 59, 60] hs (L' := [(1, .pointer (some ad2)), (3, .pointer (some ad30)), (59, .bool a0.U), (60, .pointer (some ((ad30 : Addr).add 6)))]) (by kernel_rfl) ?_ rfl
        clear hs; intro a hs
        obtain ⟨wd67, hx68, hw⟩ := x_put (P := Try.prog) (ty := 0) (t := 4) (x := (Operand.tmp 60)) (y := (Operand.tmp 59)) (off := 6) (p := (ad30 : Addr).add 6) (v := .bool a0.U) (vs := [.bool a0.U]) (i := 0) (e' := (({ v63 with U := a0.U } : Sapi_Instr) : Sapi_Instr)) hs hw rfl (one_ok ({ (⟨a0.Kind, 0, a0.A, 0, 0, 0, false⟩ : Sapi_Instr) with Op := a0.Op } : Sapi_Instr)).1 (one_ok ({ (⟨a0.Kind, 0, a0.A, 0, 0, 0, false⟩ : Sapi_Instr) with Op := a0.Op } : Sapi_Instr)).2 (by kernel_rfl) (one_off _ _ _) (by kernel_rfl) rfl (by kernel_rfl) (Nat.le_of_ble_eq_true rfl) (by simp [Value.oneCell']) (by kernel_rfl)
        refine go_unit hs (op := (Op.store 4 (Operand.tmp 60) (Operand.tmp 59))) (ty := 0) (dst := none) (g := none) (by kernel_rfl) (by kernel_rfl) (by kernel_rfl) hx68 [1, 3] (L' := [(1, .pointer (some ad2)), (3, .pointer (some ad30))]) (by kernel_rfl) ?_
        clear hs; intro a hs
        replace hw : St [] w0 wd67 [own 27 eSapi_Instr (some ad30) 1 [({ v63 with U := a0.U } : Sapi_Instr)], own 27 eSapi_Instr (some ad2) 1 [a0]] := hw
        refine go_end (by kernel_rfl) ?_
        replace hw := hw.up 1
        replace hw := hw.up 1
        replace hw := hw.only 2
        exact hJ8 ({ v63 with U := a0.U } : Sapi_Instr) _ _ (hs.keep [1, 3] (by kernel_rfl)) hw H
       ·replace H := ite_f H (ff hc)
        have hb69 := hc
        rw [hb69] at hs
        refine wp_skip ?_
        replace hw := hw.up 1
        replace hw := hw.up 1
        replace hw := hw.only 2
        exact hJ8 v63 _ _ (hs.keep [1, 3] (by kernel_rfl)) hw H
      refine go_seq_k fun K58 hK58 => ?_
      refine go_region ?_
      refine go_pvs 0 1 [1, 3, 4, 51] hs (L' := [(1, .pointer (some ad2)), (3, .pointer (some ad30)), (4, .bool v38), (51, .pointer (some ((ad2 : Addr).add 1)))]) (by kernel_rfl) ?_ rfl
      clear hs; intro a hs
      refine go_run hs (op := (Op.load 3 (Operand.tmp 51))) (ty := 3) (dst := some 52) (g := none) (by kernel_rfl) (by kernel_rfl) (by kernel_rfl) (x_ld (E := eSapi_Instr) (off := 1) (p := (ad2 : Addr).add 1) (v := .int .i64 a0.Op) (Rd.of_own (hw.up 1)) (one_ok a0).1 (one_ok a0).2 (by kernel_rfl) (one_off _ _ _) (by kernel_rfl) (by kernel_rfl)) [1, 3, 4, 52] (L' := [(1, .pointer (some ad2)), (3, .pointer (some ad30)), (4, .bool v38), (52, .int .i64 a0.Op)]) (by kernel_rfl) ?_
      clear hs; intro a hs
      refine go_pvs 2 3 [1, 3, 4, 53] hs (L' := [(1, .pointer (some ad2)), (3, .pointer (some ad30)), (4, .bool v38), (53, .bool (a0.Op != 0))]) (by kernel_rfl) ?_ rfl
      clear hs; intro a hs
      refine go_end (by kernel_rfl) ?_
      refine hK58 _ _ ?_
      refine go_cond hs (a0.Op != 0) (by kernel_rfl) (fun hc => ?_) (fun hc => ?_)
      ·replace H := ite_f H (bne_iff_ne.1 hc)
       have hb59 := hc
       rw [hb59] at hs
       refine go_region ?_
       refine go_pvs 0 1 [1, 3, 4, 54] hs (L' := [(1, .pointer (some ad2)), (3, .pointer (some ad30)), (4, .bool v38), (54, .pointer (some ((ad2 : Addr).add 3)))]) (by kernel_rfl) ?_ rfl
       clear hs; intro a hs
       refine go_run hs (op := (Op.load 3 (Operand.tmp 54))) (ty := 3) (dst := some 55) (g := none) (by kernel_rfl) (by kernel_rfl) (by kernel_rfl) (x_ld (E := eSapi_Instr) (off := 3) (p := (ad2 : Addr).add 3) (v := .int .i64 a0.B) (Rd.of_own (hw.up 1)) (one_ok a0).1 (one_ok a0).2 (by kernel_rfl) (one_off _ _ _) (by kernel_rfl) (by kernel_rfl)) [1, 3, 4, 55] (L' := [(1, .pointer (some ad2)), (3, .pointer (some ad30)), (4, .bool v38), (55, .int .i64 a0.B)]) (by kernel_rfl) ?_
       clear hs; intro a hs
       refine go_pvs 2 3 [1, 3, 4, 55, 56] hs (L' := [(1, .pointer (some ad2)), (3, .pointer (some ad30)), (4, .bool v38), (55, .int .i64 a0.B), (56, .pointer (some ((ad30 : Addr).add 3)))]) (by kernel_rfl) ?_ rfl
       clear hs; intro a hs
       obtain ⟨wd60, hx61, hw⟩ := x_put (P := Try.prog) (ty := 0) (t := 3) (x := (Operand.tmp 56)) (y := (Operand.tmp 55)) (off := 3) (p := (ad30 : Addr).add 3) (v := .int .i64 a0.B) (vs := [.int .i64 a0.B]) (i := 0) (e' := (({ ({ (⟨a0.Kind, 0, a0.A, 0, 0, 0, false⟩ : Sapi_Instr) with Op := a0.Op } : Sapi_Instr) with B := a0.B } : Sapi_Instr) : Sapi_Instr)) hs hw rfl (one_ok ({ (⟨a0.Kind, 0, a0.A, 0, 0, 0, false⟩ : Sapi_Instr) with Op := a0.Op } : Sapi_Instr)).1 (one_ok ({ (⟨a0.Kind, 0, a0.A, 0, 0, 0, false⟩ : Sapi_Instr) with Op := a0.Op } : Sapi_Instr)).2 (by kernel_rfl) (one_off _ _ _) (by kernel_rfl) rfl (by kernel_rfl) (Nat.le_of_ble_eq_true rfl) (by simp [Value.oneCell']) (by kernel_rfl)
       refine go_unit hs (op := (Op.store 3 (Operand.tmp 56) (Operand.tmp 55))) (ty := 0) (dst := none) (g := none) (by kernel_rfl) (by kernel_rfl) (by kernel_rfl) hx61 [1, 3, 4] (L' := [(1, .pointer (some ad2)), (3, .pointer (some ad30)), (4, .bool v38)]) (by kernel_rfl) ?_
       clear hs; intro a hs
       replace hw : St [] w0 wd60 [own 27 eSapi_Instr (some ad30) 1 [({ ({ (⟨a0.Kind, 0, a0.A, 0, 0, 0, false⟩ : Sapi_Instr) with Op := a0.Op } : Sapi_Instr) with B := a0.B } : Sapi_Instr)], own 27 eSapi_Instr (some ad2) 1 [a0]] := hw
       refine go_end (by kernel_rfl) ?_
       replace hw := hw.up 1
       replace hw := hw.up 1
       replace hw := hw.only 2
       exact hJ7 ({ ({ (⟨a0.Kind, 0, a0.A, 0, 0, 0, false⟩ : Sapi_Instr) with Op := a0.Op } : Sapi_Instr) with B := a0.B } : Sapi_Instr) _ _ (hs.keep [1, 3, 4] (by kernel_rfl)) hw H
      ·replace H := ite_t H (bne_eq_false_iff_eq.1 hc)
       have hb62 := hc
       rw [hb62] at hs
       refine wp_skip ?_
       replace hw := hw.up 1
       replace hw := hw.up 1
       replace hw := hw.only 2
       exact hJ7 ({ (⟨a0.Kind, 0, a0.A, 0, 0, 0, false⟩ : Sapi_Instr) with Op := a0.Op } : Sapi_Instr) _ _ (hs.keep [1, 3, 4] (by kernel_rfl)) hw H
     refine go_seq_k fun K51 hK51 => ?_
     have hJ5 : ∀ (v53 : Bool) (a : Act) (w : World), Slots a 186 [(1, .pointer (some ad2)), (3, .pointer (some ad30)), (4, .bool v38), (50, .bool v53)] → St [] w0 w [own 27 eSapi_Instr (some ad30) 1 [({ (⟨a0.Kind, 0, a0.A, 0, 0, 0, false⟩ : Sapi_Instr) with Op := a0.Op } : Sapi_Instr)], own 27 eSapi_Instr (some ad2) 1 [a0]] → rivetref03_May.j5 a0 v38 v53 = some r → K51 a w := by
      intro v53 a w hs hw H
      unfold rivetref03_May.j5 at H
      refine hK51 _ _ ?_
      refine go_cond hs v53 (by kernel_rfl) (fun hc => ?_) (fun hc => ?_)
      ·replace H := ite_t H hc
       have hb54 := hc
       rw [hb54] at hs
       refine go_seq_k fun K55 hK55 => ?_
       refine go_region ?_
       refine go_pvs 0 1 [2] hs (L' := [(2, .bool false)]) (by kernel_rfl) ?_ rfl
       clear hs; intro a hs
       refine go_end (by kernel_rfl) ?_
       refine hK55 _ _ ?_
       refine wp_ret ?_
       refine th_ret ?_
       refine ib_ret ?_
       refine th_ret ?_
       obtain rfl := Option.some.inj H
       refine ret1 (t := 2) (v := .bool false) hs (by kernel_rfl) (by kernel_rfl) ?_
       exact ⟨rfl, hw.only 0⟩
      ·replace H := ite_f H (ff hc)
       have hb56 := hc
       rw [hb56] at hs
       refine wp_skip ?_
       replace hw := hw.up 1
       replace hw := hw.up 1
       replace hw := hw.only 2
       exact hJ6 _ _ (hs.keep [1, 3, 4] (by kernel_rfl)) hw H
     refine go_region ?_
     refine go_pvs 0 1 [1, 3, 4, 43] hs (L' := [(1, .pointer (some ad2)), (3, .pointer (some ad30)), (4, .bool v38), (43, .pointer (some ((ad2 : Addr).add 1)))]) (by kernel_rfl) ?_ rfl
     clear hs; intro a hs
     refine go_run hs (op := (Op.load 3 (Operand.tmp 43))) (ty := 3) (dst := some 44) (g := none) (by kernel_rfl) (by kernel_rfl) (by kernel_rfl) (x_ld (E := eSapi_Instr) (off := 1) (p := (ad2 : Addr).add 1) (v := .int .i64 a0.Op) (Rd.of_own (hw.up 1)) (one_ok a0).1 (one_ok a0).2 (by kernel_rfl) (one_off _ _ _) (by kernel_rfl) (by kernel_rfl)) [1, 3, 4, 44] (L' := [(1, .pointer (some ad2)), (3, .pointer (some ad30)), (4, .bool v38), (44, .int .i64 a0.Op)]) (by kernel_rfl) ?_
     clear hs; intro a hs
     refine go_pvs 2 4 [1, 3, 4, 46] hs (L' := [(1, .pointer (some ad2)), (3, .pointer (some ad30)), (4, .bool v38), (46, .bool (decide (a0.Op < 0)))]) (by kernel_rfl) ?_ rfl
     clear hs; intro a hs
     cases hb52 : (decide (a0.Op < 0))
     ·replace H := ite_f H (of_decide_eq_false hb52)
      rw [hb52] at hs
      refine go_pvs 4 5 [1, 3, 4, 46, 47] hs (L' := [(1, .pointer (some ad2)), (3, .pointer (some ad30)), (4, .bool v38), (46, .bool false), (47, .pointer (some ((ad2 : Addr).add 1)))]) (by kernel_rfl) ?_ rfl
      clear hs; intro a hs
      refine go_run hs (op := (Op.load 3 (Operand.tmp 47))) (ty := 3) (dst := some 48) (g := some (3, false)) (by kernel_rfl) (by kernel_rfl) (by kernel_rfl) (x_ld (E := eSapi_Instr) (off := 1) (p := (ad2 : Addr).add 1) (v := .int .i64 a0.Op) (Rd.of_own (hw.up 1)) (one_ok a0).1 (one_ok a0).2 (by kernel_rfl) (one_off _ _ _) (by kernel_rfl) (by kernel_rfl)) [1, 3, 4, 46, 48] (L' := [(1, .pointer (some ad2)), (3, .pointer (some ad30)), (4, .bool v38), (46, .bool false), (48, .int .i64 a0.Op)]) (by kernel_rfl) ?_
      clear hs; intro a hs
      refine go_pvs 6 8 [1, 3, 4, 50] hs (L' := [(1, .pointer (some ad2)), (3, .pointer (some ad30)), (4, .bool v38), (50, .bool (decide (a0.Op > 11)))]) (by kernel_rfl) ?_ rfl
      clear hs; intro a hs
      refine go_end (by kernel_rfl) ?_
      replace hw := hw.up 1
      replace hw := hw.up 1
      replace hw := hw.only 2
      exact hJ5 (decide (a0.Op > 11)) _ _ (hs.keep [1, 3, 4, 50] (by kernel_rfl)) hw H
     ·replace H := ite_t H (of_decide_eq_true hb52)
      rw [hb52] at hs
      refine go_pvs 4 8 [1, 3, 4, 50] hs (L' := [(1, .pointer (some ad2)), (3, .pointer (some ad30)), (4, .bool v38), (50, .bool true)]) (by kernel_rfl) ?_ rfl
      clear hs; intro a hs
      refine go_end (by kernel_rfl) ?_
      replace hw := hw.up 1
      replace hw := hw.up 1
      replace hw := hw.only 2
      exact hJ5 true _ _ (hs.keep [1, 3, 4, 50] (by kernel_rfl)) hw H
    ·replace H := ite_f H (ff hc)
     have hb98 := hc
     rw [hb98] at hs
     refine go_seq_k fun K99 hK99 => ?_
     have hJ12 : ∀ (v103 : Bool) (a : Act) (w : World), Slots a 186 [(1, .pointer (some ad2)), (3, .pointer (some ad30)), (36, .int .i64 a0.Kind), (108, .bool v103)] → St [] w0 w [own 27 eSapi_Instr (some ad30) 1 [(⟨a0.Kind, 0, a0.A, 0, 0, 0, false⟩ : Sapi_Instr)], own 27 eSapi_Instr (some ad2) 1 [a0]] → rivetref03_May.j12 a0 v103 = some r → K99 a w := by
      intro v103 a w hs hw H
      unfold rivetref03_May.j12 at H
      refine hK99 _ _ ?_
      refine go_cond hs v103 (by kernel_rfl) (fun hc => ?_) (fun hc => ?_)
      ·replace H := ite_t H hc
       have hb104 := hc
       rw [hb104] at hs
       refine go_seq_k fun K105 hK105 => ?_
       refine go_region ?_
       refine go_run hs (op := (Op.load 27 (Operand.tmp 3))) (ty := 27) (dst := some 111) (g := none) (by kernel_rfl) (by kernel_rfl) (by kernel_rfl) (x_lds (E := eSapi_Instr) (off := 0) (p := ad30) (cs := (eSapi_Instr.enc (⟨a0.Kind, 0, a0.A, 0, 0, 0, false⟩ : Sapi_Instr))) (Rd.of_own (hw.up 0)) (one_ok (⟨a0.Kind, 0, a0.A, 0, 0, 0, false⟩ : Sapi_Instr)).1 (one_ok (⟨a0.Kind, 0, a0.A, 0, 0, 0, false⟩ : Sapi_Instr)).2 (by kernel_rfl) (one_at _ _) (by kernel_rfl) (by kernel_rfl) (by kernel_rfl)) [1, 111] (L' := [(1, .pointer (some ad2)), (111, .agg (eSapi_Instr.enc (⟨a0.Kind, 0, a0.A, 0, 0, 0, false⟩ : Sapi_Instr)).toArray)]) (by kernel_rfl) ?_
       clear hs; intro a hs
       refine go_run hs (op := (Op.load 27 (Operand.tmp 1))) (ty := 27) (dst := some 112) (g := none) (by kernel_rfl) (by kernel_rfl) (by kernel_rfl) (x_lds (E := eSapi_Instr) (off := 0) (p := ad2) (cs := (eSapi_Instr.enc a0)) (Rd.of_own (hw.up 1)) (one_ok a0).1 (one_ok a0).2 (by kernel_rfl) (one_at _ _) (by kernel_rfl) (by kernel_rfl) (by kernel_rfl)) [111, 112] (L' := [(111, .agg (eSapi_Instr.enc (⟨a0.Kind, 0, a0.A, 0, 0, 0, false⟩ : Sapi_Instr)).toArray), (112, .agg (eSapi_Instr.enc a0).toArray)]) (by kernel_rfl) ?_
       clear hs; intro a hs
       refine go_run hs (op := (Op.binOp BinOp.eql 27 (Operand.tmp 111) (Operand.tmp 112) 27)) (ty := 4) (dst := some 113) (g := none) (by kernel_rfl) (by kernel_rfl) (by kernel_rfl) (x_eql (xs := (eSapi_Instr.enc (⟨a0.Kind, 0, a0.A, 0, 0, 0, false⟩ : Sapi_Instr)).toArray) (ys := (eSapi_Instr.enc a0).toArray) (r := ((a0.Kind == a0.Kind) && ((0 == a0.Op) && ((a0.A == a0.A) && ((0 == a0.B) && ((0 == a0.C) && ((0 == a0.Imm) && ((false == a0.U) && true)))))))) (by kernel_rfl) (by kernel_rfl) (by kernel_rfl) (eq_struct Try.underlying27 (by kernel_rfl) (eq_cons (a := .int .i64 a0.Kind) (b := .int .i64 a0.Kind) (r := (a0.Kind == a0.Kind)) (s := ((0 == a0.Op) && ((a0.A == a0.A) && ((0 == a0.B) && ((0 == a0.C) && ((0 == a0.Imm) && ((false == a0.U) && true))))))) (by kernel_rfl) (part_pv (by kernel_rfl)) (part_pv (by kernel_rfl)) (eq_pv (by kernel_rfl)) (eq_cons (a := .int .i64 0) (b := .int .i64 a0.Op) (r := (0 == a0.Op)) (s := ((a0.A == a0.A) && ((0 == a0.B) && ((0 == a0.C) && ((0 == a0.Imm) && ((false == a0.U) && true)))))) (by kernel_rfl) (part_pv (by kernel_rfl)) (part_pv (by kernel_rfl)) (eq_pv (by kernel_rfl)) (eq_cons (a := .int .i64 a0.A) (b := .int .i64 a0.A) (r := (a0.A == a0.A)) (s := ((0 == a0.B) && ((0 == a0.C) && ((0 == a0.Imm) && ((false == a0.U) && true))))) (by kernel_rfl) (part_pv (by kernel_rfl)) (part_pv (by kernel_rfl)) (eq_pv (by kernel_rfl)) (eq_cons (a := .int .i64 0) (b := .int .i64 a0.B) (r := (0 == a0.B)) (s := ((0 == a0.C) && ((0 == a0.Imm) && ((false == a0.U) && true)))) (by kernel_rfl) (part_pv (by kernel_rfl)) (part_pv (by kernel_rfl)) (eq_pv (by kernel_rfl)) (eq_cons (a := .int .i64 0) (b := .int .i64 a0.C) (r := (0 == a0.C)) (s := ((0 == a0.Imm) && ((false == a0.U) && true))) (by kernel_rfl) (part_pv (by kernel_rfl)) (part_pv (by kernel_rfl)) (eq_pv (by kernel_rfl)) (eq_cons (a := .int .i64 0) (b := .int .i64 a0.Imm) (r := (0 == a0.Imm)) (s := ((false == a0.U) && true)) (by kernel_rfl) (part_pv (by kernel_rfl)) (part_pv (by kernel_rfl)) (eq_pv (by kernel_rfl)) (eq_cons (a := .bool false) (b := .bool a0.U) (r := (false == a0.U)) (s := true) (by kernel_rfl) (part_pv (by kernel_rfl)) (part_pv (by kernel_rfl)) (eq_pv (by kernel_rfl)) eq_nil))))))))) [113] (L' := [(113, .bool ((a0.Kind == a0.Kind) && ((0 == a0.Op) && ((a0.A == a0.A) && ((0 == a0.B) && ((0 == a0.C) && ((0 == a0.Imm) && ((false == a0.U) && true))))))))]) (by kernel_rfl) ?_
       clear hs; intro a hs
       refine go_pvs 3 4 [2] hs (L' := [(2, .bool ((a0.Kind == a0.Kind) && ((0 == a0.Op) && ((a0.A == a0.A) && ((0 == a0.B) && ((0 == a0.C) && ((0 == a0.Imm) && ((false == a0.U) && true))))))))]) (by kernel_rfl) ?_ rfl
       clear hs; intro a hs
       refine go_end (by kernel_rfl) ?_
       refine hK105 _ _ ?_
       refine wp_ret ?_
       refine ib_ret ?_
       refine th_ret ?_
       obtain rfl := Option.some.inj H
       refine ret1 (t := 2) (v := .bool ((a0.Kind == a0.Kind) && ((0 == a0.Op) && ((a0.A == a0.A) && ((0 == a0.B) && ((0 == a0.C) && ((0 == a0.Imm) && ((false == a0.U) && true)))))))) hs (by kernel_rfl) (by kernel_rfl) ?_
       exact ⟨rfl, hw.only 0⟩
      ·replace H := ite_f H (ff hc)
       have hb106 := hc
       rw [hb106] at hs
       refine go_seq_k fun K107 hK107 => ?_
       refine go_region ?_
       refine go_pvs 0 2 [1, 3, 36, 114] hs (L' := [(1, .pointer (some ad2)), (3, .pointer (some ad30)), (36, .int .i64 a0.Kind), (114, .bool (a0.Kind == 5))]) (by kernel_rfl) ?_ rfl
       clear hs; intro a hs
       refine go_end (by kernel_rfl) ?_
       refine hK107 _ _ ?_
       refine go_cond hs (a0.Kind == 5) (by kernel_rfl) (fun hc => ?_) (fun hc => ?_)
       ·replace H := ite_t H (beq_iff_eq.1 hc)
        have hb108 := hc
        rw [hb108] at hs
        refine go_seq_k fun K109 hK109 => ?_
        refine go_region ?_
        refine go_pvs 0 1 [1, 3, 116] hs (L' := [(1, .pointer (some ad2)), (3, .pointer (some ad30)), (116, .pointer (some ((ad2 : Addr).add 1)))]) (by kernel_rfl) ?_ rfl
        clear hs; intro a hs
        refine go_run hs (op := (Op.load 3 (Operand.tmp 116))) (ty := 3) (dst := some 117) (g := none) (by kernel_rfl) (by kernel_rfl) (by kernel_rfl) (x_ld (E := eSapi_Instr) (off := 1) (p := (ad2 : Addr).add 1) (v := .int .i64 a0.Op) (Rd.of_own (hw.up 1)) (one_ok a0).1 (one_ok a0).2 (by kernel_rfl) (one_off _ _ _) (by kernel_rfl) (by kernel_rfl)) [1, 3, 117] (L' := [(1, .pointer (some ad2)), (3, .pointer (some ad30)), (117, .int .i64 a0.Op)]) (by kernel_rfl) ?_
        clear hs; intro a hs
        refine go_pvs 2 3 [1, 3, 117, 118] hs (L' := [(1, .pointer (some ad2)), (3, .pointer (some ad30)), (117, .int .i64 a0.Op), (118, .pointer (some ((ad30 : Addr).add 1)))]) (by kernel_rfl) ?_ rfl
        clear hs; intro a hs
        obtain ⟨wd110, hx111, hw⟩ := x_put (P := Try.prog) (ty := 0) (t := 3) (x := (Operand.tmp 118)) (y := (Operand.tmp 117)) (off := 1) (p := (ad30 : Addr).add 1) (v := .int .i64 a0.Op) (vs := [.int .i64 a0.Op]) (i := 0) (e' := (({ (⟨a0.Kind, 0, a0.A, 0, 0, 0, false⟩ : Sapi_Instr) with Op := a0.Op } : Sapi_Instr) : Sapi_Instr)) hs hw rfl (one_ok (⟨a0.Kind, 0, a0.A, 0, 0, 0, false⟩ : Sapi_Instr)).1 (one_ok (⟨a0.Kind, 0, a0.A, 0, 0, 0, false⟩ : Sapi_Instr)).2 (by kernel_rfl) (one_off _ _ _) (by kernel_rfl) rfl (by kernel_rfl) (Nat.le_of_ble_eq_true rfl) (by simp [Value.oneCell']) (by kernel_rfl)
        refine go_unit hs (op := (Op.store 3 (Operand.tmp 118) (Operand.tmp 117))) (ty := 0) (dst := none) (g := none) (by kernel_rfl) (by kernel_rfl) (by kernel_rfl) hx111 [1, 3] (L' := [(1, .pointer (some ad2)), (3, .pointer (some ad30))]) (by kernel_rfl) ?_
        clear hs; intro a hs
        replace hw : St [] w0 wd110 [own 27 eSapi_Instr (some ad30) 1 [({ (⟨a0.Kind, 0, a0.A, 0, 0, 0, false⟩ : Sapi_Instr) with Op := a0.Op } : Sapi_Instr)], own 27 eSapi_Instr (some ad2) 1 [a0]] := hw
        refine go_end (by kernel_rfl) ?_
        refine hK109 _ _ ?_
        refine go_seq_k fun K112 hK112 => ?_
        refine go_region ?_
        refine go_pvs 0 1 [1, 3, 119] hs (L' := [(1, .pointer (some ad2)), (3, .pointer (some ad30)), (119, .pointer (some ((ad2 : Addr).add 3)))]) (by kernel_rfl) ?_ rfl
        clear hs; intro a hs
        refine go_run hs (op := (Op.load 3 (Operand.tmp 119))) (ty := 3) (dst := some 120) (g := none) (by kernel_rfl) (by kernel_rfl) (by kernel_rfl) (x_ld (E := eSapi_Instr) (off := 3) (p := (ad2 : Addr).add 3) (v := .int .i64 a0.B) (Rd.of_own (hw.up 1)) (one_ok a0).1 (one_ok a0).2 (by kernel_rfl) (one_off _ _ _) (by kernel_rfl) (by kernel_rfl)) [1, 3, 120] (L' := [(1, .pointer (some ad2)), (3, .pointer (some ad30)), (120, .int .i64 a0.B)]) (by kernel_rfl) ?_
        clear hs; intro a hs
        refine go_pvs 2 3 [1, 3, 120, 121] hs (L' := [(1, .pointer (some ad2)), (3, .pointer (some ad30)), (120, .int .i64 a0.B), (121, .pointer (some ((ad30 : Addr).add 3)))]) (by kernel_rfl) ?_ rfl
        clear hs; intro a hs
        obtain ⟨wd113, hx114, hw⟩ := x_put (P := Try.prog) (ty := 0) (t := 3) (x := (Operand.tmp 121)) (y := (Operand.tmp 120)) (off := 3) (p := (ad30 : Addr).add 3) (v := .int .i64 a0.B) (vs := [.int .i64 a0.B]) (i := 0) (e' := (({ ({ (⟨a0.Kind, 0, a0.A, 0, 0, 0, false⟩ : Sapi_Instr) with Op := a0.Op } : Sapi_Instr) with B := a0.B } : Sapi_Instr) : Sapi_Instr)) hs hw rfl (one_ok ({ (⟨a0.Kind, 0, a0.A, 0, 0, 0, false⟩ : Sapi_Instr) with Op := a0.Op } : Sapi_Instr)).1 (one_ok ({ (⟨a0.Kind, 0, a0.A, 0, 0, 0, false⟩ : Sapi_Instr) with Op := a0.Op } : Sapi_Instr)).2 (by kernel_rfl) (one_off _ _ _) (by kernel_rfl) rfl (by kernel_rfl) (Nat.le_of_ble_eq_true rfl) (by simp [Value.oneCell']) (by kernel_rfl)
        refine go_unit hs (op := (Op.store 3 (Operand.tmp 121) (Operand.tmp 120))) (ty := 0) (dst := none) (g := none) (by kernel_rfl) (by kernel_rfl) (by kernel_rfl) hx114 [1, 3] (L' := [(1, .pointer (some ad2)), (3, .pointer (some ad30))]) (by kernel_rfl) ?_
        clear hs; intro a hs
        replace hw : St [] w0 wd113 [own 27 eSapi_Instr (some ad30) 1 [({ ({ (⟨a0.Kind, 0, a0.A, 0, 0, 0, false⟩ : Sapi_Instr) with Op := a0.Op } : Sapi_Instr) with B := a0.B } : Sapi_Instr)], own 27 eSapi_Instr (some ad2) 1 [a0]] := hw
        refine go_end (by kernel_rfl) ?_
        refine hK112 _ _ ?_
        refine go_seq_k fun K115 hK115 => ?_
        refine go_region ?_
        refine go_pvs 0 1 [1, 3, 122] hs (L' := [(1, .pointer (some ad2)), (3, .pointer (some ad30)), (122, .pointer (some ((ad2 : Addr).add 5)))]) (by kernel_rfl) ?_ rfl
        clear hs; intro a hs
        refine go_run hs (op := (Op.load 3 (Operand.tmp 122))) (ty := 3) (dst := some 123) (g := none) (by kernel_rfl) (by kernel_rfl) (by kernel_rfl) (x_ld (E := eSapi_Instr) (off := 5) (p := (ad2 : Addr).add 5) (v := .int .i64 a0.Imm) (Rd.of_own (hw.up 1)) (one_ok a0).1 (one_ok a0).2 (by kernel_rfl) (one_off _ _ _) (by kernel_rfl) (by kernel_rfl)) [1, 3, 123] (L' := [(1, .pointer (some ad2)), (3, .pointer (some ad30)), (123, .int .i64 a0.Imm)]) (by kernel_rfl) ?_
        clear hs; intro a hs
        refine go_pvs 2 3 [1, 3, 123, 124] hs (L' := [(1, .pointer (some ad2)), (3, .pointer (some ad30)), (123, .int .i64 a0.Imm), (124, .pointer (some ((ad30 : Addr).add 5)))]) (by kernel_rfl) ?_ rfl
        clear hs; intro a hs
        obtain ⟨wd116, hx117, hw⟩ := x_put (P := Try.prog) (ty := 0) (t := 3) (x := (Operand.tmp 124)) (y := (Operand.tmp 123)) (off := 5) (p := (ad30 : Addr).add 5) (v := .int .i64 a0.Imm) (vs := [.int .i64 a0.Imm]) (i := 0) (e' := (({ ({ ({ (⟨a0.Kind, 0, a0.A, 0, 0, 0, false⟩ : Sapi_Instr) with Op := a0.Op } : Sapi_Instr) with B := a0.B } : Sapi_Instr) with Imm := a0.Imm } : Sapi_Instr) : Sapi_Instr)) hs hw rfl (one_ok ({ ({ (⟨a0.Kind, 0, a0.A, 0, 0, 0, false⟩ : Sapi_Instr) with Op := a0.Op } : Sapi_Instr) with B := a0.B } : Sapi_Instr)).1 (one_ok ({ ({ (⟨a0.Kind, 0, a0.A, 0, 0, 0, false⟩ : Sapi_Instr) with Op := a0.Op } : Sapi_Instr) with B := a0.B } : Sapi_Instr)).2 (by kernel_rfl) (one_off _ _ _) (by kernel_rfl) rfl (by kernel_rfl) (Nat.le_of_ble_eq_true rfl) (by simp [Value.oneCell']) (by kernel_rfl)
        refine go_unit hs (op := (Op.store 3 (Operand.tmp 124) (Operand.tmp 123))) (ty := 0) (dst := none) (g := none) (by kernel_rfl) (by kernel_rfl) (by kernel_rfl) hx117 [1, 3] (L' := [(1, .pointer (some ad2)), (3, .pointer (some ad30))]) (by kernel_rfl) ?_
        clear hs; intro a hs
        replace hw : St [] w0 wd116 [own 27 eSapi_Instr (some ad30) 1 [({ ({ ({ (⟨a0.Kind, 0, a0.A, 0, 0, 0, false⟩ : Sapi_Instr) with Op := a0.Op } : Sapi_Instr) with B := a0.B } : Sapi_Instr) with Imm := a0.Imm } : Sapi_Instr)], own 27 eSapi_Instr (some ad2) 1 [a0]] := hw
        refine go_end (by kernel_rfl) ?_
        refine hK115 _ _ ?_
        refine go_seq_k fun K118 hK118 => ?_
        have hJ13 : ∀ (v127 : Bool) (a : Act) (w : World), Slots a 186 [(2, .bool v127)] → St [] w0 w [own 27 eSapi_Instr (some ad30) 1 [({ ({ ({ (⟨a0.Kind, 0, a0.A, 0, 0, 0, false⟩ : Sapi_Instr) with Op := a0.Op } : Sapi_Instr) with B := a0.B } : Sapi_Instr) with Imm := a0.Imm } : Sapi_Instr)], own 27 eSapi_Instr (some ad2) 1 [a0]] → rivetref03_May.j13 v127 = some r → K118 a w := by
         intro v127 a w hs hw H
         unfold rivetref03_May.j13 at H
         refine hK118 _ _ ?_
         refine wp_ret ?_
         refine ib_ret ?_
         refine th_ret ?_
         obtain rfl := Option.some.inj H
         refine ret1 (t := 2) (v := .bool v127) hs (by kernel_rfl) (by kernel_rfl) ?_
         exact ⟨rfl, hw.only 0⟩
        refine go_region ?_
        refine go_run hs (op := (Op.load 27 (Operand.tmp 3))) (ty := 27) (dst := some 125) (g := none) (by kernel_rfl) (by kernel_rfl) (by kernel_rfl) (x_lds (E := eSapi_Instr) (off := 0) (p := ad30) (cs := (eSapi_Instr.enc ({ ({ ({ (⟨a0.Kind, 0, a0.A, 0, 0, 0, false⟩ : Sapi_Instr) with Op := a0.Op } : Sapi_Instr) with B := a0.B } : Sapi_Instr) with Imm := a0.Imm } : Sapi_Instr))) (Rd.of_own (hw.up 0)) (one_ok ({ ({ ({ (⟨a0.Kind, 0, a0.A, 0, 0, 0, false⟩ : Sapi_Instr) with Op := a0.Op } : Sapi_Instr) with B := a0.B } : Sapi_Instr) with Imm := a0.Imm } : Sapi_Instr)).1 (one_ok ({ ({ ({ (⟨a0.Kind, 0, a0.A, 0, 0, 0, false⟩ : Sapi_Instr) with Op := a0.Op } : Sapi_Instr) with B := a0.B } : Sapi_Instr) with Imm := a0.Imm } : Sapi_Instr)).2 (by kernel_rfl) (one_at _ _) (by kernel_rfl) (by kernel_rfl) (by kernel_rfl)) [1, 125] (L' := [(1, .pointer (some ad2)), (125, .agg (eSapi_Instr.enc ({ ({ ({ (⟨a0.Kind, 0, a0.A, 0, 0, 0, false⟩ : Sapi_Instr) with Op := a0.Op } : Sapi_Instr) with B := a0.B } : Sapi_Instr) with Imm := a0.Imm } : Sapi_Instr)).toArray)]) (by kernel_rfl) ?_
        clear hs; intro a hs
        refine go_run hs (op := (Op.load 27 (Operand.tmp 1))) (ty := 27) (dst := some 126) (g := none) (by kernel_rfl) (by kernel_rfl) (by kernel_rfl) (x_lds (E := eSapi_Instr) (off := 0) (p := ad2) (cs := (eSapi_Instr.enc a0)) (Rd.of_own (hw.up 1)) (one_ok a0).1 (one_ok a0).2 (by kernel_rfl) (one_at _ _) (by kernel_rfl) (by kernel_rfl) (by kernel_rfl)) [1, 125, 126] (L' := [(1, .pointer (some ad2)), (125, .agg (eSapi_Instr.enc ({ ({ ({ (⟨a0.Kind, 0, a0.A, 0, 0, 0, false⟩ : Sapi_Instr) with Op := a0.Op } : Sapi_Instr) with B := a0.B } : Sapi_Instr) with Imm := a0.Imm } : Sapi_Instr)).toArray), (126, .agg (eSapi_Instr.enc a0).toArray)]) (by kernel_rfl) ?_
        clear hs; intro a hs
        refine go_run hs (op := (Op.binOp BinOp.eql 27 (Operand.tmp 125) (Operand.tmp 126) 27)) (ty := 4) (dst := some 127) (g := none) (by kernel_rfl) (by kernel_rfl) (by kernel_rfl) (x_eql (xs := (eSapi_Instr.enc ({ ({ ({ (⟨a0.Kind, 0, a0.A, 0, 0, 0, false⟩ : Sapi_Instr) with Op := a0.Op } : Sapi_Instr) with B := a0.B } : Sapi_Instr) with Imm := a0.Imm } : Sapi_Instr)).toArray) (ys := (eSapi_Instr.enc a0).toArray) (r := ((a0.Kind == a0.Kind) && ((a0.Op == a0.Op) && ((a0.A == a0.A) && ((a0.B == a0.B) && ((0 == a0.C) && ((a0.Imm == a0.Imm) && ((false == a0.U) && true)))))))) (by kernel_rfl) (by kernel_rfl) (by kernel_rfl) (eq_struct Try.underlying27 (by kernel_rfl) (eq_cons (a := .int .i64 a0.Kind) (b := .int .i64 a0.Kind) (r := (a0.Kind == a0.Kind)) (s := ((a0.Op == a0.Op) && ((a0.A == a0.A) && ((a0.B == a0.B) && ((0 == a0.C) && ((a0.Imm == a0.Imm) && ((false == a0.U) && true))))))) (by kernel_rfl) (part_pv (by kernel_rfl)) (part_pv (by kernel_rfl)) (eq_pv (by kernel_rfl)) (eq_cons (a := .int .i64 a0.Op) (b := .int .i64 a0.Op) (r := (a0.Op == a0.Op)) (s := ((a0.A == a0.A) && ((a0.B == a0.B) && ((0 == a0.C) && ((a0.Imm == a0.Imm) && ((false == a0.U) && true)))))) (by kernel_rfl) (part_pv (by kernel_rfl)) (part_pv (by kernel_rfl)) (eq_pv (by kernel_rfl)) (eq_cons (a := .int .i64 a0.A) (b := .int .i64 a0.A) (r := (a0.A == a0.A)) (s := ((a0.B == a0.B) && ((0 == a0.C) && ((a0.Imm == a0.Imm) && ((false == a0.U) && true))))) (by kernel_rfl) (part_pv (by kernel_rfl)) (part_pv (by kernel_rfl)) (eq_pv (by kernel_rfl)) (eq_cons (a := .int .i64 a0.B) (b := .int .i64 a0.B) (r := (a0.B == a0.B)) (s := ((0 == a0.C) && ((a0.Imm == a0.Imm) && ((false == a0.U) && true)))) (by kernel_rfl) (part_pv (by kernel_rfl)) (part_pv (by kernel_rfl)) (eq_pv (by kernel_rfl)) (eq_cons (a := .int .i64 0) (b := .int .i64 a0.C) (r := (0 == a0.C)) (s := ((a0.Imm == a0.Imm) && ((false == a0.U) && true))) (by kernel_rfl) (part_pv (by kernel_rfl)) (part_pv (by kernel_rfl)) (eq_pv (by kernel_rfl)) (eq_cons (a := .int .i64 a0.Imm) (b := .int .i64 a0.Imm) (r := (a0.Imm == a0.Imm)) (s := ((false == a0.U) && true)) (by kernel_rfl) (part_pv (by kernel_rfl)) (part_pv (by kernel_rfl)) (eq_pv (by kernel_rfl)) (eq_cons (a := .bool false) (b := .bool a0.U) (r := (false == a0.U)) (s := true) (by kernel_rfl) (part_pv (by kernel_rfl)) (part_pv (by kernel_rfl)) (eq_pv (by kernel_rfl)) eq_nil))))))))) [1, 127] (L' := [(1, .pointer (some ad2)), (127, .bool ((a0.Kind == a0.Kind) && ((a0.Op == a0.Op) && ((a0.A == a0.A) && ((a0.B == a0.B) && ((0 == a0.C) && ((a0.Imm == a0.Imm) && ((false == a0.U) && true))))))))]) (by kernel_rfl) ?_
        clear hs; intro a hs
        refine go_pvs 3 4 [1, 128] hs (L' := [(1, .pointer (some ad2)), (128, .bool ((a0.Kind == a0.Kind) && ((a0.Op == a0.Op) && ((a0.A == a0.A) && ((a0.B == a0.B) && ((0 == a0.C) && ((a0.Imm == a0.Imm) && ((false == a0.U) && true))))))))]) (by kernel_rfl) ?_ rfl
        clear hs; intro a hs
        cases hb119 : ((a0.Kind == a0.Kind) && ((a0.Op == a0.Op) && ((a0.A == a0.A) && ((a0.B == a0.B) && ((0 == a0.C) && ((a0.Imm == a0.Imm) && ((false == a0.U) && true)))))))
        ·replace H := ite_f H (ff hb119)
         rw [hb119] at hs
         refine go_pvs 4 19 [2] hs (L' := [(2, .bool false)]) (by kernel_rfl) ?_ rfl
         clear hs; intro a hs
         refine go_end (by kernel_rfl) ?_
         replace hw := hw.up 1
         replace hw := hw.up 1
         replace hw := hw.only 2
         exact hJ13 false _ _ (hs.keep [2] (by kernel_rfl)) hw H
        ·replace H := ite_t H hb119
         rw [hb119] at hs
         refine go_pvs 4 5 [1, 128, 129] hs (L' := [(1, .pointer (some ad2)), (128, .bool true), (129, .pointer (some ((ad2 : Addr).add 1)))]) (by kernel_rfl) ?_ rfl
         clear hs; intro a hs
         refine go_run hs (op := (Op.load 3 (Operand.tmp 129))) (ty := 3) (dst := some 130) (g := some (3, true)) (by kernel_rfl) (by kernel_rfl) (by kernel_rfl) (x_ld (E := eSapi_Instr) (off := 1) (p := (ad2 : Addr).add 1) (v := .int .i64 a0.Op) (Rd.of_own (hw.up 1)) (one_ok a0).1 (one_ok a0).2 (by kernel_rfl) (one_off _ _ _) (by kernel_rfl) (by kernel_rfl)) [1, 128, 130] (L' := [(1, .pointer (some ad2)), (128, .bool true), (130, .int .i64 a0.Op)]) (by kernel_rfl) ?_
         clear hs; intro a hs
         refine go_pvs 6 9 [1, 133] hs (L' := [(1, .pointer (some ad2)), (133, .bool (decide (a0.Op ≥ 0)))]) (by kernel_rfl) ?_ rfl
         clear hs; intro a hs
         cases hb120 : (decide (a0.Op ≥ 0))
         ·replace H := ite_f H (of_decide_eq_false hb120)
          rw [hb120] at hs
          refine go_pvs 9 19 [2] hs (L' := [(2, .bool false)]) (by kernel_rfl) ?_ rfl
          clear hs; intro a hs
          refine go_end (by kernel_rfl) ?_
          replace hw := hw.up 1
          replace hw := hw.up 1
          replace hw := hw.only 2
          exact hJ13 false _ _ (hs.keep [2] (by kernel_rfl)) hw H
         ·replace H := ite_t H (of_decide_eq_true hb120)
          rw [hb120] at hs
          refine go_pvs 9 10 [1, 133, 134] hs (L' := [(1, .pointer (some ad2)), (133, .bool true), (134, .pointer (some ((ad2 : Addr).add 1)))]) (by kernel_rfl) ?_ rfl
          clear hs; intro a hs
          refine go_run hs (op := (Op.load 3 (Operand.tmp 134))) (ty := 3) (dst := some 135) (g := some (8, true)) (by kernel_rfl) (by kernel_rfl) (by kernel_rfl) (x_ld (E := eSapi_Instr) (off := 1) (p := (ad2 : Addr).add 1) (v := .int .i64 a0.Op) (Rd.of_own (hw.up 1)) (one_ok a0).1 (one_ok a0).2 (by kernel_rfl) (one_off _ _ _) (by kernel_rfl) (by kernel_rfl)) [1, 133, 135] (L' := [(1, .pointer (some ad2)), (133, .bool true), (135, .int .i64 a0.Op)]) (by kernel_rfl) ?_
          clear hs; intro a hs
          refine go_pvs 11 14 [1, 138] hs (L' := [(1, .pointer (some ad2)), (138, .bool (decide (a0.Op ≤ 3)))]) (by kernel_rfl) ?_ rfl
          clear hs; intro a hs
          cases hb121 : (decide (a0.Op ≤ 3))
          ·replace H := ite_f H (of_decide_eq_false hb121)
           rw [hb121] at hs
           refine go_pvs 14 19 [2] hs (L' := [(2, .bool false)]) (by kernel_rfl) ?_ rfl
           clear hs; intro a hs
           refine go_end (by kernel_rfl) ?_
           replace hw := hw.up 1
           replace hw := hw.up 1
           replace hw := hw.only 2
           exact hJ13 false _ _ (hs.keep [2] (by kernel_rfl)) hw H
          ·replace H := ite_t H (of_decide_eq_true hb121)
           rw [hb121] at hs
           refine go_pvs 14 15 [138, 139] hs (L' := [(138, .bool true), (139, .pointer (some ((ad2 : Addr).add 5)))]) (by kernel_rfl) ?_ rfl
           clear hs; intro a hs
           refine go_run hs (op := (Op.load 3 (Operand.tmp 139))) (ty := 3) (dst := some 140) (g := some (13, true)) (by kernel_rfl) (by kernel_rfl) (by kernel_rfl) (x_ld (E := eSapi_Instr) (off := 5) (p := (ad2 : Addr).add 5) (v := .int .i64 a0.Imm) (Rd.of_own (hw.up 1)) (one_ok a0).1 (one_ok a0).2 (by kernel_rfl) (one_off _ _ _) (by kernel_rfl) (by kernel_rfl)) [138, 140] (L' := [(138, .bool true), (140, .int .i64 a0.Imm)]) (by kernel_rfl) ?_
           clear hs; intro a hs
           obtain ⟨t123, hx124, H⟩ := bind_some H
           refine go_call hs (op := (Op.call { callee := (Callee.value (Operand.func 49)), args := #[(Operand.tmp 140), (Operand.const (Value.int IntKind.i64 20))], argTypes := #[3, 3] })) (ty := 4) (dst := some 141) (g := some (13, true)) (by kernel_rfl) (by kernel_rfl) (by kernel_rfl) (f := 49) (args := #[.int .i64 a0.Imm, .int .i64 20]) (by kernel_rfl) (rivetref02_Fits.calls a0.Imm 20 t123 _ hx124) ?_
           rintro e wd125 ⟨rfl, hw126⟩
           refine ⟨_, rfl, ?_⟩
           replace hw := hw.call hw126
           intro a hs1
           replace hs : Slots a 186 [(138, .bool true), (141, .bool t123)] := hs1.keep [138, 141] (by kernel_rfl)
           clear hs1
           refine go_pvs 17 19 [2] hs (L' := [(2, .bool t123)]) (by kernel_rfl) ?_ rfl
           clear hs; intro a hs
           refine go_end (by kernel_rfl) ?_
           replace hw := hw.up 1
           replace hw := hw.up 1
           replace hw := hw.only 2
           exact hJ13 t123 _ _ (hs.keep [2] (by kernel_rfl)) hw H
       ·replace H := ite_f H (beq_eq_false_iff_ne.1 hc)
        have hb128 := hc
        rw [hb128] at hs
        refine go_seq_k fun K129 hK129 => ?_
        refine go_region ?_
        refine go_pvs 0 2 [1, 3, 36, 143] hs (L' := [(1, .pointer (some ad2)), (3, .pointer (some ad30)), (36, .int .i64 a0.Kind), (143, .bool (a0.Kind == 6))]) (by kernel_rfl) ?_ rfl
        clear hs; intro a hs
        refine go_end (by kernel_rfl) ?_
        refine hK129 _ _ ?_
        refine go_cond hs (a0.Kind == 6) (by kernel_rfl) (fun hc => ?_) (fun hc => ?_)
        ·replace H := ite_t H (beq_iff_eq.1 hc)
         have hb130 := hc
         rw [hb130] at hs
         refine go_seq_k fun K131 hK131 => ?_
         refine go_region ?_
         refine go_pvs 0 1 [1, 3, 145] hs (L' := [(1, .pointer (some ad2)), (3, .pointer (some ad30)), (145, .pointer (some ((ad2 : Addr).add 0)))]) (by kernel_rfl) ?_ rfl
         clear hs; intro a hs
         refine go_run hs (op := (Op.load 3 (Operand.tmp 145))) (ty := 3) (dst := some 146) (g := none) (by kernel_rfl) (by kernel_rfl) (by kernel_rfl) (x_ld (E := eSapi_Instr) (off := 0) (p := (ad2 : Addr).add 0) (v := .int .i64 a0.Kind) (Rd.of_own (hw.up 1)) (one_ok a0).1 (one_ok a0).2 (by kernel_rfl) (one_off _ _ _) (by kernel_rfl) (by kernel_rfl)) [1, 3, 146] (L' := [(1, .pointer (some ad2)), (3, .pointer (some ad30)), (146, .int .i64 a0.Kind)]) (by kernel_rfl) ?_
         clear hs; intro a hs
         refine go_pvs 2 3 [1, 3, 146, 147] hs (L' := [(1, .pointer (some ad2)), (3, .pointer (some ad30)), (146, .int .i64 a0.Kind), (147, .pointer (some ((ad2 : Addr).add 1)))]) (by kernel_rfl) ?_ rfl
         clear hs; intro a hs
         refine go_run hs (op := (Op.load 3 (Operand.tmp 147))) (ty := 3) (dst := some 148) (g := none) (by kernel_rfl) (by kernel_rfl) (by kernel_rfl) (x_ld (E := eSapi_Instr) (off := 1) (p := (ad2 : Addr).add 1) (v := .int .i64 a0.Op) (Rd.of_own (hw.up 1)) (one_ok a0).1 (one_ok a0).2 (by kernel_rfl) (one_off _ _ _) (by kernel_rfl) (by kernel_rfl)) [1, 3, 146, 148] (L' := [(1, .pointer (some ad2)), (3, .pointer (some ad30)), (146, .int .i64 a0.Kind), (148, .int .i64 a0.Op)]) (by kernel_rfl) ?_
         clear hs; intro a hs
         refine go_pvs 4 5 [1, 3, 146, 148, 149] hs (L' := [(1, .pointer (some ad2)), (3, .pointer (some ad30)), (146, .int .i64 a0.Kind), (148, .int .i64 a0.Op), (149, .pointer (some ((ad2 : Addr).add 4)))]) (by kernel_rfl) ?_ rfl
         clear hs; intro a hs
         refine go_run hs (op := (Op.load 3 (Operand.tmp 149))) (ty := 3) (dst := some 150) (g := none) (by kernel_rfl) (by kernel_rfl) (by kernel_rfl) (x_ld (E := eSapi_Instr) (off := 4) (p := (ad2 : Addr).add 4) (v := .int .i64 a0.C) (Rd.of_own (hw.up 1)) (one_ok a0).1 (one_ok a0).2 (by kernel_rfl) (one_off _ _ _) (by kernel_rfl) (by kernel_rfl)) [1, 3, 146, 148, 150] (L' := [(1, .pointer (some ad2)), (3, .pointer (some ad30)), (146, .int .i64 a0.Kind), (148, .int .i64 a0.Op), (150, .int .i64 a0.C)]) (by kernel_rfl) ?_
         clear hs; intro a hs
         refine go_pvs 6 7 [1, 3, 146, 148, 150, 151] hs (L' := [(1, .pointer (some ad2)), (3, .pointer (some ad30)), (146, .int .i64 a0.Kind), (148, .int .i64 a0.Op), (150, .int .i64 a0.C), (151, .pointer (some ((ad2 : Addr).add 6)))]) (by kernel_rfl) ?_ rfl
         clear hs; intro a hs
         refine go_run hs (op := (Op.load 4 (Operand.tmp 151))) (ty := 4) (dst := some 152) (g := none) (by kernel_rfl) (by kernel_rfl) (by kernel_rfl) (x_ld (E := eSapi_Instr) (off := 6) (p := (ad2 : Addr).add 6) (v := .bool a0.U) (Rd.of_own (hw.up 1)) (one_ok a0).1 (one_ok a0).2 (by kernel_rfl) (one_off _ _ _) (by kernel_rfl) (by kernel_rfl)) [1, 3, 146, 148, 150, 152] (L' := [(1, .pointer (some ad2)), (3, .pointer (some ad30)), (146, .int .i64 a0.Kind), (148, .int .i64 a0.Op), (150, .int .i64 a0.C), (152, .bool a0.U)]) (by kernel_rfl) ?_
         clear hs; intro a hs
         refine go_pvs 8 9 [1, 3, 153] hs (L' := [(1, .pointer (some ad2)), (3, .pointer (some ad30)), (153, .agg (eSapi_Instr.enc (⟨a0.Kind, a0.Op, 0, 0, a0.C, 0, a0.U⟩ : Sapi_Instr)).toArray)]) (by kernel_rfl) ?_ rfl
         clear hs; intro a hs
         obtain ⟨wd132, hx133, hw⟩ := x_put (P := Try.prog) (ty := 0) (t := 27) (x := (Operand.tmp 3)) (y := (Operand.tmp 153)) (off := 0) (p := ad30) (v := .agg (eSapi_Instr.enc (⟨a0.Kind, a0.Op, 0, 0, a0.C, 0, a0.U⟩ : Sapi_Instr)).toArray) (vs := (eSapi_Instr.enc (⟨a0.Kind, a0.Op, 0, 0, a0.C, 0, a0.U⟩ : Sapi_Instr))) (i := 0) (e' := ((⟨a0.Kind, a0.Op, 0, 0, a0.C, 0, a0.U⟩ : Sapi_Instr) : Sapi_Instr)) hs hw rfl (one_ok (⟨a0.Kind, 0, a0.A, 0, 0, 0, false⟩ : Sapi_Instr)).1 (one_ok (⟨a0.Kind, 0, a0.A, 0, 0, 0, false⟩ : Sapi_Instr)).2 (by kernel_rfl) (one_at _ _) (by kernel_rfl) rfl (by kernel_rfl) (Nat.le_of_ble_eq_true rfl) (eSapi_Instr.one _) (by kernel_rfl)
         refine go_unit hs (op := (Op.store 27 (Operand.tmp 3) (Operand.tmp 153))) (ty := 0) (dst := none) (g := none) (by kernel_rfl) (by kernel_rfl) (by kernel_rfl) hx133 [1, 3] (L' := [(1, .pointer (some ad2)), (3, .pointer (some ad30))]) (by kernel_rfl) ?_
         clear hs; intro a hs
         replace hw : St [] w0 wd132 [own 27 eSapi_Instr (some ad30) 1 [(⟨a0.Kind, a0.Op, 0, 0, a0.C, 0, a0.U⟩ : Sapi_Instr)], own 27 eSapi_Instr (some ad2) 1 [a0]] := hw
         refine go_end (by kernel_rfl) ?_
         refine hK131 _ _ ?_
         refine go_seq_k fun K134 hK134 => ?_
         have hJ14 : ∀ (v141 : Bool) (a : Act) (w : World), Slots a 186 [(2, .bool v141)] → St [] w0 w [own 27 eSapi_Instr (some ad30) 1 [(⟨a0.Kind, a0.Op, 0, 0, a0.C, 0, a0.U⟩ : Sapi_Instr)], own 27 eSapi_Instr (some ad2) 1 [a0]] → rivetref03_May.j14 v141 = some r → K134 a w := by
          intro v141 a w hs hw H
          unfold rivetref03_May.j14 at H
          refine hK134 _ _ ?_
          refine wp_ret ?_
          refine ib_ret ?_
          refine th_ret ?_
          obtain rfl := Option.some.inj H
          refine ret1 (t := 2) (v := .bool v141) hs (by kernel_rfl) (by kernel_rfl) ?_
          exact ⟨rfl, hw.only 0⟩
         refine go_region ?_
         refine go_run hs (op := (Op.load 27 (Operand.tmp 3))) (ty := 27) (dst := some 154) (g := none) (by kernel_rfl) (by kernel_rfl) (by kernel_rfl) (x_lds (E := eSapi_Instr) (off := 0) (p := ad30) (cs := (eSapi_Instr.enc (⟨a0.Kind, a0.Op, 0, 0, a0.C, 0, a0.U⟩ : Sapi_Instr))) (Rd.of_own (hw.up 0)) (one_ok (⟨a0.Kind, a0.Op, 0, 0, a0.C, 0, a0.U⟩ : Sapi_Instr)).1 (one_ok (⟨a0.Kind, a0.Op, 0, 0, a0.C, 0, a0.U⟩ : Sapi_Instr)).2 (by kernel_rfl) (one_at _ _) (by kernel_rfl) (by kernel_rfl) (by kernel_rfl)) [1, 154] (L' := [(1, .pointer (some ad2)), (154, .agg (eSapi_Instr.enc (⟨a0.Kind, a0.Op, 0, 0, a0.C, 0, a0.U⟩ : Sapi_Instr)).toArray)]) (by kernel_rfl) ?_
         clear hs; intro a hs
         refine go_run hs (op := (Op.load 27 (Operand.tmp 1))) (ty := 27) (dst := some 155) (g := none) (by kernel_rfl) (by kernel_rfl) (by kernel_rfl) (x_lds (E := eSapi_Instr) (off := 0) (p := ad2) (cs := (eSapi_Instr.enc a0)) (Rd.of_own (hw.up 1)) (one_ok a0).1 (one_ok a0).2 (by kernel_rfl) (one_at _ _) (by kernel_rfl) (by kernel_rfl) (by kernel_rfl)) [1, 154, 155] (L' := [(1, .pointer (some ad2)), (154, .agg (eSapi_Instr.enc (⟨a0.Kind, a0.Op, 0, 0, a0.C, 0, a0.U⟩ : Sapi_Instr)).toArray), (155, .agg (eSapi_Instr.enc a0).toArray)]) (by kernel_rfl) ?_
         clear hs; intro a hs
         refine go_run hs (op := (Op.binOp BinOp.eql 27 (Operand.tmp 154) (Operand.tmp 155) 27)) (ty := 4) (dst := some 156) (g := none) (by kernel_rfl) (by kernel_rfl) (by kernel_rfl) (x_eql (xs := (eSapi_Instr.enc (⟨a0.Kind, a0.Op, 0, 0, a0.C, 0, a0.U⟩ : Sapi_Instr)).toArray) (ys := (eSapi_Instr.enc a0).toArray) (r := ((a0.Kind == a0.Kind) && ((a0.Op == a0.Op) && ((0 == a0.A) && ((0 == a0.B) && ((a0.C == a0.C) && ((0 == a0.Imm) && ((a0.U == a0.U) && true)))))))) (by kernel_rfl) (by kernel_rfl) (by kernel_rfl) (eq_struct Try.underlying27 (by kernel_rfl) (eq_cons (a := .int .i64 a0.Kind) (b := .int .i64 a0.Kind) (r := (a0.Kind == a0.Kind)) (s := ((a0.Op == a0.Op) && ((0 == a0.A) && ((0 == a0.B) && ((a0.C == a0.C) && ((0 == a0.Imm) && ((a0.U == a0.U) && true))))))) (by kernel_rfl) (part_pv (by kernel_rfl)) (part_pv (by kernel_rfl)) (eq_pv (by kernel_rfl)) (eq_cons (a := .int .i64 a0.Op) (b := .int .i64 a0.Op) (r := (a0.Op == a0.Op)) (s := ((0 == a0.A) && ((0 == a0.B) && ((a0.C == a0.C) && ((0 == a0.Imm) && ((a0.U == a0.U) && true)))))) (by kernel_rfl) (part_pv (by kernel_rfl)) (part_pv (by kernel_rfl)) (eq_pv (by kernel_rfl)) (eq_cons (a := .int .i64 0) (b := .int .i64 a0.A) (r := (0 == a0.A)) (s := ((0 == a0.B) && ((a0.C == a0.C) && ((0 == a0.Imm) && ((a0.U == a0.U) && true))))) (by kernel_rfl) (part_pv (by kernel_rfl)) (part_pv (by kernel_rfl)) (eq_pv (by kernel_rfl)) (eq_cons (a := .int .i64 0) (b := .int .i64 a0.B) (r := (0 == a0.B)) (s := ((a0.C == a0.C) && ((0 == a0.Imm) && ((a0.U == a0.U) && true)))) (by kernel_rfl) (part_pv (by kernel_rfl)) (part_pv (by kernel_rfl)) (eq_pv (by kernel_rfl)) (eq_cons (a := .int .i64 a0.C) (b := .int .i64 a0.C) (r := (a0.C == a0.C)) (s := ((0 == a0.Imm) && ((a0.U == a0.U) && true))) (by kernel_rfl) (part_pv (by kernel_rfl)) (part_pv (by kernel_rfl)) (eq_pv (by kernel_rfl)) (eq_cons (a := .int .i64 0) (b := .int .i64 a0.Imm) (r := (0 == a0.Imm)) (s := ((a0.U == a0.U) && true)) (by kernel_rfl) (part_pv (by kernel_rfl)) (part_pv (by kernel_rfl)) (eq_pv (by kernel_rfl)) (eq_cons (a := .bool a0.U) (b := .bool a0.U) (r := (a0.U == a0.U)) (s := true) (by kernel_rfl) (part_pv (by kernel_rfl)) (part_pv (by kernel_rfl)) (eq_pv (by kernel_rfl)) eq_nil))))))))) [1, 156] (L' := [(1, .pointer (some ad2)), (156, .bool ((a0.Kind == a0.Kind) && ((a0.Op == a0.Op) && ((0 == a0.A) && ((0 == a0.B) && ((a0.C == a0.C) && ((0 == a0.Imm) && ((a0.U == a0.U) && true))))))))]) (by kernel_rfl) ?_
         clear hs; intro a hs
         refine go_pvs 3 4 [1, 157] hs (L' := [(1, .pointer (some ad2)), (157, .bool ((a0.Kind == a0.Kind) && ((a0.Op == a0.Op) && ((0 == a0.A) && ((0 == a0.B) && ((a0.C == a0.C) && ((0 == a0.Imm) && ((a0.U == a0.U) && true))))))))]) (by kernel_rfl) ?_ rfl
         clear hs; intro a hs
         cases hb135 : ((a0.Kind == a0.Kind) && ((a0.Op == a0.Op) && ((0 == a0.A) && ((0 == a0.B) && ((a0.C == a0.C) && ((0 == a0.Imm) && ((a0.U == a0.U) && true)))))))
         ·replace H := ite_f H (ff hb135)
          rw [hb135] at hs
          refine go_pvs 4 9 [2] hs (L' := [(2, .bool false)]) (by kernel_rfl) ?_ rfl
          clear hs; intro a hs
          refine go_end (by kernel_rfl) ?_
          replace hw := hw.up 1
          replace hw := hw.up 1
          replace hw := hw.only 2
          exact hJ14 false _ _ (hs.keep [2] (by kernel_rfl)) hw H
         ·replace H := ite_t H hb135
          rw [hb135] at hs
          refine go_pvs 4 5 [157, 158] hs (L' := [(157, .bool true), (158, .pointer (some ((ad2 : Addr).add 1)))]) (by kernel_rfl) ?_ rfl
          clear hs; intro a hs
          refine go_run hs (op := (Op.load 3 (Operand.tmp 158))) (ty := 3) (dst := some 159) (g := some (3, true)) (by kernel_rfl) (by kernel_rfl) (by kernel_rfl) (x_ld (E := eSapi_Instr) (off := 1) (p := (ad2 : Addr).add 1) (v := .int .i64 a0.Op) (Rd.of_own (hw.up 1)) (one_ok a0).1 (one_ok a0).2 (by kernel_rfl) (one_off _ _ _) (by kernel_rfl) (by kernel_rfl)) [157, 159] (L' := [(157, .bool true), (159, .int .i64 a0.Op)]) (by kernel_rfl) ?_
          clear hs; intro a hs
          obtain ⟨t137, hx138, H⟩ := bind_some H
          refine go_call hs (op := (Op.call { callee := (Callee.value (Operand.func 48)), args := #[(Operand.tmp 159)], argTypes := #[3] })) (ty := 4) (dst := some 160) (g := some (3, true)) (by kernel_rfl) (by kernel_rfl) (by kernel_rfl) (f := 48) (args := #[.int .i64 a0.Op]) (by kernel_rfl) (rivetref03_reg.calls a0.Op t137 _ hx138) ?_
          rintro e wd139 ⟨rfl, hw140⟩
          refine ⟨_, rfl, ?_⟩
          replace hw := hw.call hw140
          intro a hs1
          replace hs : Slots a 186 [(157, .bool true), (160, .bool t137)] := hs1.keep [157, 160] (by kernel_rfl)
          clear hs1
          refine go_pvs 7 9 [2] hs (L' := [(2, .bool t137)]) (by kernel_rfl) ?_ rfl
          clear hs; intro a hs
          refine go_end (by kernel_rfl) ?_
          replace hw := hw.up 1
          replace hw := hw.up 1
          replace hw := hw.only 2
          exact hJ14 t137 _ _ (hs.keep [2] (by kernel_rfl)) hw H
        ·replace H := ite_f H (beq_eq_false_iff_ne.1 hc)
         have hb142 := hc
         rw [hb142] at hs
         refine go_seq_k fun K143 hK143 => ?_
         refine go_region ?_
         refine go_pvs 0 2 [1, 3, 162] hs (L' := [(1, .pointer (some ad2)), (3, .pointer (some ad30)), (162, .bool (a0.Kind == 7))]) (by kernel_rfl) ?_ rfl
         clear hs; intro a hs
         refine go_end (by kernel_rfl) ?_
         refine hK143 _ _ ?_
         refine go_cond hs (a0.Kind == 7) (by kernel_rfl) (fun hc => ?_) (fun hc => ?_)
         ·replace H := ite_t H (beq_iff_eq.1 hc)
          have hb144 := hc
          rw [hb144] at hs
          refine go_seq_k fun K145 hK145 => ?_
          refine go_region ?_
          refine go_pvs 0 1 [1, 3, 164] hs (L' := [(1, .pointer (some ad2)), (3, .pointer (some ad30)), (164, .pointer (some ((ad2 : Addr).add 0)))]) (by kernel_rfl) ?_ rfl
          clear hs; intro a hs
          refine go_run hs (op := (Op.load 3 (Operand.tmp 164))) (ty := 3) (dst := some 165) (g := none) (by kernel_rfl) (by kernel_rfl) (by kernel_rfl) (x_ld (E := eSapi_Instr) (off := 0) (p := (ad2 : Addr).add 0) (v := .int .i64 a0.Kind) (Rd.of_own (hw.up 1)) (one_ok a0).1 (one_ok a0).2 (by kernel_rfl) (one_off _ _ _) (by kernel_rfl) (by kernel_rfl)) [1, 3, 165] (L' := [(1, .pointer (some ad2)), (3, .pointer (some ad30)), (165, .int .i64 a0.Kind)]) (by kernel_rfl) ?_
          clear hs; intro a hs
          refine go_pvs 2 3 [1, 3, 165, 166] hs (L' := [(1, .pointer (some ad2)), (3, .pointer (some ad30)), (165, .int .i64 a0.Kind), (166, .pointer (some ((ad2 : Addr).add 1)))]) (by kernel_rfl) ?_ rfl
          clear hs; intro a hs
          refine go_run hs (op := (Op.load 3 (Operand.tmp 166))) (ty := 3) (dst := some 167) (g := none) (by kernel_rfl) (by kernel_rfl) (by kernel_rfl) (x_ld (E := eSapi_Instr) (off := 1) (p := (ad2 : Addr).add 1) (v := .int .i64 a0.Op) (Rd.of_own (hw.up 1)) (one_ok a0).1 (one_ok a0).2 (by kernel_rfl) (one_off _ _ _) (by kernel_rfl) (by kernel_rfl)) [1, 3, 165, 167] (L' := [(1, .pointer (some ad2)), (3, .pointer (some ad30)), (165, .int .i64 a0.Kind), (167, .int .i64 a0.Op)]) (by kernel_rfl) ?_
          clear hs; intro a hs
          refine go_pvs 4 5 [1, 3, 165, 167, 168] hs (L' := [(1, .pointer (some ad2)), (3, .pointer (some ad30)), (165, .int .i64 a0.Kind), (167, .int .i64 a0.Op), (168, .pointer (some ((ad2 : Addr).add 5)))]) (by kernel_rfl) ?_ rfl
          clear hs; intro a hs
          refine go_run hs (op := (Op.load 3 (Operand.tmp 168))) (ty := 3) (dst := some 169) (g := none) (by kernel_rfl) (by kernel_rfl) (by kernel_rfl) (x_ld (E := eSapi_Instr) (off := 5) (p := (ad2 : Addr).add 5) (v := .int .i64 a0.Imm) (Rd.of_own (hw.up 1)) (one_ok a0).1 (one_ok a0).2 (by kernel_rfl) (one_off _ _ _) (by kernel_rfl) (by kernel_rfl)) [1, 3, 165, 167, 169] (L' := [(1, .pointer (some ad2)), (3, .pointer (some ad30)), (165, .int .i64 a0.Kind), (167, .int .i64 a0.Op), (169, .int .i64 a0.Imm)]) (by kernel_rfl) ?_
          clear hs; intro a hs
          refine go_pvs 6 7 [1, 3, 165, 167, 169, 170] hs (L' := [(1, .pointer (some ad2)), (3, .pointer (some ad30)), (165, .int .i64 a0.Kind), (167, .int .i64 a0.Op), (169, .int .i64 a0.Imm), (170, .pointer (some ((ad2 : Addr).add 6)))]) (by kernel_rfl) ?_ rfl
          clear hs; intro a hs
          refine go_run hs (op := (Op.load 4 (Operand.tmp 170))) (ty := 4) (dst := some 171) (g := none) (by kernel_rfl) (by kernel_rfl) (by kernel_rfl) (x_ld (E := eSapi_Instr) (off := 6) (p := (ad2 : Addr).add 6) (v := .bool a0.U) (Rd.of_own (hw.up 1)) (one_ok a0).1 (one_ok a0).2 (by kernel_rfl) (one_off _ _ _) (by kernel_rfl) (by kernel_rfl)) [1, 3, 165, 167, 169, 171] (L' := [(1, .pointer (some ad2)), (3, .pointer (some ad30)), (165, .int .i64 a0.Kind), (167, .int .i64 a0.Op), (169, .int .i64 a0.Imm), (171, .bool a0.U)]) (by kernel_rfl) ?_
          clear hs; intro a hs
          refine go_pvs 8 9 [1, 3, 172] hs (L' := [(1, .pointer (some ad2)), (3, .pointer (some ad30)), (172, .agg (eSapi_Instr.enc (⟨a0.Kind, a0.Op, 0, 0, 0, a0.Imm, a0.U⟩ : Sapi_Instr)).toArray)]) (by kernel_rfl) ?_ rfl
          clear hs; intro a hs
          obtain ⟨wd146, hx147, hw⟩ := x_put (P := Try.prog) (ty := 0) (t := 27) (x := (Operand.tmp 3)) (y := (Operand.tmp 172)) (off := 0) (p := ad30) (v := .agg (eSapi_Instr.enc (⟨a0.Kind, a0.Op, 0, 0, 0, a0.Imm, a0.U⟩ : Sapi_Instr)).toArray) (vs := (eSapi_Instr.enc (⟨a0.Kind, a0.Op, 0, 0, 0, a0.Imm, a0.U⟩ : Sapi_Instr))) (i := 0) (e' := ((⟨a0.Kind, a0.Op, 0, 0, 0, a0.Imm, a0.U⟩ : Sapi_Instr) : Sapi_Instr)) hs hw rfl (one_ok (⟨a0.Kind, 0, a0.A, 0, 0, 0, false⟩ : Sapi_Instr)).1 (one_ok (⟨a0.Kind, 0, a0.A, 0, 0, 0, false⟩ : Sapi_Instr)).2 (by kernel_rfl) (one_at _ _) (by kernel_rfl) rfl (by kernel_rfl) (Nat.le_of_ble_eq_true rfl) (eSapi_Instr.one _) (by kernel_rfl)
          refine go_unit hs (op := (Op.store 27 (Operand.tmp 3) (Operand.tmp 172))) (ty := 0) (dst := none) (g := none) (by kernel_rfl) (by kernel_rfl) (by kernel_rfl) hx147 [1, 3] (L' := [(1, .pointer (some ad2)), (3, .pointer (some ad30))]) (by kernel_rfl) ?_
          clear hs; intro a hs
          replace hw : St [] w0 wd146 [own 27 eSapi_Instr (some ad30) 1 [(⟨a0.Kind, a0.Op, 0, 0, 0, a0.Imm, a0.U⟩ : Sapi_Instr)], own 27 eSapi_Instr (some ad2) 1 [a0]] := hw
          refine go_end (by kernel_rfl) ?_
          refine hK145 _ _ ?_
          refine go_seq_k fun K148 hK148 => ?_
          have hJ15 : ∀ (v161 : Bool) (a : Act) (w : World), Slots a 186 [(2, .bool v161)] → St [] w0 w [own 27 eSapi_Instr (some ad30) 1 [(⟨a0.Kind, a0.Op, 0, 0, 0, a0.Imm, a0.U⟩ : Sapi_Instr)], own 27 eSapi_Instr (some ad2) 1 [a0]] → rivetref03_May.j15 v161 = some r → K148 a w := by
           intro v161 a w hs hw H
           unfold rivetref03_May.j15 at H
           refine hK148 _ _ ?_
           refine wp_ret ?_
           refine ib_ret ?_
           refine th_ret ?_
           obtain rfl := Option.some.inj H
           refine ret1 (t := 2) (v := .bool v161) hs (by kernel_rfl) (by kernel_rfl) ?_
           exact ⟨rfl, hw.only 0⟩
          refine go_region ?_
          refine go_run hs (op := (Op.load 27 (Operand.tmp 3))) (ty := 27) (dst := some 173) (g := none) (by kernel_rfl) (by kernel_rfl) (by kernel_rfl) (x_lds (E := eSapi_Instr) (off := 0) (p := ad30) (cs := (eSapi_Instr.enc (⟨a0.Kind, a0.Op, 0, 0, 0, a0.Imm, a0.U⟩ : Sapi_Instr))) (Rd.of_own (hw.up 0)) (one_ok (⟨a0.Kind, a0.Op, 0, 0, 0, a0.Imm, a0.U⟩ : Sapi_Instr)).1 (one_ok (⟨a0.Kind, a0.Op, 0, 0, 0, a0.Imm, a0.U⟩ : Sapi_Instr)).2 (by kernel_rfl) (one_at _ _) (by kernel_rfl) (by kernel_rfl) (by kernel_rfl)) [1, 173] (L' := [(1, .pointer (some ad2)), (173, .agg (eSapi_Instr.enc (⟨a0.Kind, a0.Op, 0, 0, 0, a0.Imm, a0.U⟩ : Sapi_Instr)).toArray)]) (by kernel_rfl) ?_
          clear hs; intro a hs
          refine go_run hs (op := (Op.load 27 (Operand.tmp 1))) (ty := 27) (dst := some 174) (g := none) (by kernel_rfl) (by kernel_rfl) (by kernel_rfl) (x_lds (E := eSapi_Instr) (off := 0) (p := ad2) (cs := (eSapi_Instr.enc a0)) (Rd.of_own (hw.up 1)) (one_ok a0).1 (one_ok a0).2 (by kernel_rfl) (one_at _ _) (by kernel_rfl) (by kernel_rfl) (by kernel_rfl)) [1, 173, 174] (L' := [(1, .pointer (some ad2)), (173, .agg (eSapi_Instr.enc (⟨a0.Kind, a0.Op, 0, 0, 0, a0.Imm, a0.U⟩ : Sapi_Instr)).toArray), (174, .agg (eSapi_Instr.enc a0).toArray)]) (by kernel_rfl) ?_
          clear hs; intro a hs
          refine go_run hs (op := (Op.binOp BinOp.eql 27 (Operand.tmp 173) (Operand.tmp 174) 27)) (ty := 4) (dst := some 175) (g := none) (by kernel_rfl) (by kernel_rfl) (by kernel_rfl) (x_eql (xs := (eSapi_Instr.enc (⟨a0.Kind, a0.Op, 0, 0, 0, a0.Imm, a0.U⟩ : Sapi_Instr)).toArray) (ys := (eSapi_Instr.enc a0).toArray) (r := ((a0.Kind == a0.Kind) && ((a0.Op == a0.Op) && ((0 == a0.A) && ((0 == a0.B) && ((0 == a0.C) && ((a0.Imm == a0.Imm) && ((a0.U == a0.U) && true)))))))) (by kernel_rfl) (by kernel_rfl) (by kernel_rfl) (eq_struct Try.underlying27 (by kernel_rfl) (eq_cons (a := .int .i64 a0.Kind) (b := .int .i64 a0.Kind) (r := (a0.Kind == a0.Kind)) (s := ((a0.Op == a0.Op) && ((0 == a0.A) && ((0 == a0.B) && ((0 == a0.C) && ((a0.Imm == a0.Imm) && ((a0.U == a0.U) && true))))))) (by kernel_rfl) (part_pv (by kernel_rfl)) (part_pv (by kernel_rfl)) (eq_pv (by kernel_rfl)) (eq_cons (a := .int .i64 a0.Op) (b := .int .i64 a0.Op) (r := (a0.Op == a0.Op)) (s := ((0 == a0.A) && ((0 == a0.B) && ((0 == a0.C) && ((a0.Imm == a0.Imm) && ((a0.U == a0.U) && true)))))) (by kernel_rfl) (part_pv (by kernel_rfl)) (part_pv (by kernel_rfl)) (eq_pv (by kernel_rfl)) (eq_cons (a := .int .i64 0) (b := .int .i64 a0.A) (r := (0 == a0.A)) (s := ((0 == a0.B) && ((0 == a0.C) && ((a0.Imm == a0.Imm) && ((a0.U == a0.U) && true))))) (by kernel_rfl) (part_pv (by kernel_rfl)) (part_pv (by kernel_rfl)) (eq_pv (by kernel_rfl)) (eq_cons (a := .int .i64 0) (b := .int .i64 a0.B) (r := (0 == a0.B)) (s := ((0 == a0.C) && ((a0.Imm == a0.Imm) && ((a0.U == a0.U) && true)))) (by kernel_rfl) (part_pv (by kernel_rfl)) (part_pv (by kernel_rfl)) (eq_pv (by kernel_rfl)) (eq_cons (a := .int .i64 0) (b := .int .i64 a0.C) (r := (0 == a0.C)) (s := ((a0.Imm == a0.Imm) && ((a0.U == a0.U) && true))) (by kernel_rfl) (part_pv (by kernel_rfl)) (part_pv (by kernel_rfl)) (eq_pv (by kernel_rfl)) (eq_cons (a := .int .i64 a0.Imm) (b := .int .i64 a0.Imm) (r := (a0.Imm == a0.Imm)) (s := ((a0.U == a0.U) && true)) (by kernel_rfl) (part_pv (by kernel_rfl)) (part_pv (by kernel_rfl)) (eq_pv (by kernel_rfl)) (eq_cons (a := .bool a0.U) (b := .bool a0.U) (r := (a0.U == a0.U)) (s := true) (by kernel_rfl) (part_pv (by kernel_rfl)) (part_pv (by kernel_rfl)) (eq_pv (by kernel_rfl)) eq_nil))))))))) [1, 175] (L' := [(1, .pointer (some ad2)), (175, .bool ((a0.Kind == a0.Kind) && ((a0.Op == a0.Op) && ((0 == a0.A) && ((0 == a0.B) && ((0 == a0.C) && ((a0.Imm == a0.Imm) && ((a0.U == a0.U) && true))))))))]) (by kernel_rfl) ?_
          clear hs; intro a hs
          refine go_pvs 3 4 [1, 176] hs (L' := [(1, .pointer (some ad2)), (176, .bool ((a0.Kind == a0.Kind) && ((a0.Op == a0.Op) && ((0 == a0.A) && ((0 == a0.B) && ((0 == a0.C) && ((a0.Imm == a0.Imm) && ((a0.U == a0.U) && true))))))))]) (by kernel_rfl) ?_ rfl
          clear hs; intro a hs
          cases hb149 : ((a0.Kind == a0.Kind) && ((a0.Op == a0.Op) && ((0 == a0.A) && ((0 == a0.B) && ((0 == a0.C) && ((a0.Imm == a0.Imm) && ((a0.U == a0.U) && true)))))))
          ·replace H := ite_f H (ff hb149)
           rw [hb149] at hs
           refine go_pvs 4 14 [2] hs (L' := [(2, .bool false)]) (by kernel_rfl) ?_ rfl
           clear hs; intro a hs
           refine go_end (by kernel_rfl) ?_
           replace hw := hw.up 1
           replace hw := hw.up 1
           replace hw := hw.only 2
           exact hJ15 false _ _ (hs.keep [2] (by kernel_rfl)) hw H
          ·replace H := ite_t H hb149
           rw [hb149] at hs
           refine go_pvs 4 5 [1, 176, 177] hs (L' := [(1, .pointer (some ad2)), (176, .bool true), (177, .pointer (some ((ad2 : Addr).add 1)))]) (by kernel_rfl) ?_ rfl
           clear hs; intro a hs
           refine go_run hs (op := (Op.load 3 (Operand.tmp 177))) (ty := 3) (dst := some 178) (g := some (3, true)) (by kernel_rfl) (by kernel_rfl) (by kernel_rfl) (x_ld (E := eSapi_Instr) (off := 1) (p := (ad2 : Addr).add 1) (v := .int .i64 a0.Op) (Rd.of_own (hw.up 1)) (one_ok a0).1 (one_ok a0).2 (by kernel_rfl) (one_off _ _ _) (by kernel_rfl) (by kernel_rfl)) [1, 176, 178] (L' := [(1, .pointer (some ad2)), (176, .bool true), (178, .int .i64 a0.Op)]) (by kernel_rfl) ?_
           clear hs; intro a hs
           obtain ⟨t151, hx152, H⟩ := bind_some H
           refine go_call hs (op := (Op.call { callee := (Callee.value (Operand.func 48)), args := #[(Operand.tmp 178)], argTypes := #[3] })) (ty := 4) (dst := some 179) (g := some (3, true)) (by kernel_rfl) (by kernel_rfl) (by kernel_rfl) (f := 48) (args := #[.int .i64 a0.Op]) (by kernel_rfl) (rivetref03_reg.calls a0.Op t151 _ hx152) ?_
           rintro e wd153 ⟨rfl, hw154⟩
           refine ⟨_, rfl, ?_⟩
           replace hw := hw.call hw154
           intro a hs1
           replace hs : Slots a 186 [(1, .pointer (some ad2)), (176, .bool true), (179, .bool t151)] := hs1.keep [1, 176, 179] (by kernel_rfl)
           clear hs1
           refine go_pvs 7 9 [1, 181] hs (L' := [(1, .pointer (some ad2)), (181, .bool t151)]) (by kernel_rfl) ?_ rfl
           clear hs; intro a hs
           cases hb155 : t151
           ·replace H := ite_f H (ff hb155)
            rw [hb155] at hs
            refine go_pvs 9 14 [2] hs (L' := [(2, .bool false)]) (by kernel_rfl) ?_ rfl
            clear hs; intro a hs
            refine go_end (by kernel_rfl) ?_
            replace hw := hw.up 1
            replace hw := hw.up 1
            replace hw := hw.only 2
            exact hJ15 false _ _ (hs.keep [2] (by kernel_rfl)) hw H
           ·replace H := ite_t H hb155
            rw [hb155] at hs
            refine go_pvs 9 10 [181, 182] hs (L' := [(181, .bool true), (182, .pointer (some ((ad2 : Addr).add 5)))]) (by kernel_rfl) ?_ rfl
            clear hs; intro a hs
            refine go_run hs (op := (Op.load 3 (Operand.tmp 182))) (ty := 3) (dst := some 183) (g := some (8, true)) (by kernel_rfl) (by kernel_rfl) (by kernel_rfl) (x_ld (E := eSapi_Instr) (off := 5) (p := (ad2 : Addr).add 5) (v := .int .i64 a0.Imm) (Rd.of_own (hw.up 1)) (one_ok a0).1 (one_ok a0).2 (by kernel_rfl) (one_off _ _ _) (by kernel_rfl) (by kernel_rfl)) [181, 183] (L' := [(181, .bool true), (183, .int .i64 a0.Imm)]) (by kernel_rfl) ?_
            clear hs; intro a hs
            obtain ⟨t157, hx158, H⟩ := bind_some H
            refine go_call hs (op := (Op.call { callee := (Callee.value (Operand.func 49)), args := #[(Operand.tmp 183), (Operand.const (Value.int IntKind.i64 24))], argTypes := #[3, 3] })) (ty := 4) (dst := some 184) (g := some (8, true)) (by kernel_rfl) (by kernel_rfl) (by kernel_rfl) (f := 49) (args := #[.int .i64 a0.Imm, .int .i64 24]) (by kernel_rfl) (rivetref02_Fits.calls a0.Imm 24 t157 _ hx158) ?_
            rintro e wd159 ⟨rfl, hw160⟩
            refine ⟨_, rfl, ?_⟩
            replace hw := hw.call hw160
            intro a hs1
            replace hs : Slots a 186 [(181, .bool true), (184, .bool t157)] := hs1.keep [181, 184] (by kernel_rfl)
            clear hs1
            refine go_pvs 12 14 [2] hs (L' := [(2, .bool t157)]) (by kernel_rfl) ?_ rfl
            clear hs; intro a hs
            refine go_end (by kernel_rfl) ?_
            replace hw := hw.up 1
            replace hw := hw.up 1
            replace hw := hw.only 2
            exact hJ15 t157 _ _ (hs.keep [2] (by kernel_rfl)) hw H
         ·replace H := ite_f H (beq_eq_false_iff_ne.1 hc)
          have hb162 := hc
          rw [hb162] at hs
          refine wp_skip ?_
          refine ib_norm ?_
          replace hw := hw.up 1
          replace hw := hw.up 1
          replace hw := hw.only 2
          exact hJ16 _ _ (hs.keep [] (by kernel_rfl)) hw H
     refine go_seq_k fun K100 hK100 => ?_
     refine go_region ?_
     refine go_pvs 0 2 [1, 3, 36, 108] hs (L' := [(1, .pointer (some ad2)), (3, .pointer (some ad30)), (36, .int .i64 a0.Kind), (108, .bool (a0.Kind == 3))]) (by kernel_rfl) ?_ rfl
     clear hs; intro a hs
     refine go_end (by kernel_rfl) ?_
     refine hK100 _ _ ?_
     refine go_cond hs (a0.Kind == 3) (by kernel_rfl) (fun hc => ?_) (fun hc => ?_)
     ·replace H := ite_t H (beq_iff_eq.1 hc)
      have hb101 := hc
      rw [hb101] at hs
      refine wp_skip ?_
      replace hw := hw.up 1
      replace hw := hw.up 1
      replace hw := hw.only 2
      exact hJ12 true _ _ (hs.keep [1, 3, 36, 108] (by kernel_rfl)) hw H
     ·replace H := ite_f H (beq_eq_false_iff_ne.1 hc)
      have hb102 := hc
      rw [hb102] at hs
      refine go_region ?_
      refine go_pvs 0 2 [1, 3, 36, 108] hs (L' := [(1, .pointer (some ad2)), (3, .pointer (some ad30)), (36, .int .i64 a0.Kind), (108, .bool (a0.Kind == 4))]) (by kernel_rfl) ?_ rfl
      clear hs; intro a hs
      refine go_end (by kernel_rfl) ?_
      replace hw := hw.up 1
      replace hw := hw.up 1
      replace hw := hw.only 2
      exact hJ12 (a0.Kind == 4) _ _ (hs.keep [1, 3, 36, 108] (by kernel_rfl)) hw H
   refine go_seq_k fun K42 hK42 => ?_
   refine go_region ?_
   refine go_pvs 0 2 [1, 3, 4, 36, 37] hs (L' := [(1, .pointer (some ad2)), (3, .pointer (some ad30)), (4, .bool v38), (36, .int .i64 a0.Kind), (37, .bool (a0.Kind == 1))]) (by kernel_rfl) ?_ rfl
   clear hs; intro a hs
   refine go_end (by kernel_rfl) ?_
   refine hK42 _ _ ?_
   refine go_cond hs (a0.Kind == 1) (by kernel_rfl) (fun hc => ?_) (fun hc => ?_)
   ·replace H := ite_t H (beq_iff_eq.1 hc)
    have hb43 := hc
    rw [hb43] at hs
    refine wp_skip ?_
    replace hw := hw.up 1
    replace hw := hw.up 1
    replace hw := hw.only 2
    exact hJ4 true _ _ (hs.keep [1, 3, 4, 36, 37] (by kernel_rfl)) hw H
   ·replace H := ite_f H (beq_eq_false_iff_ne.1 hc)
    have hb44 := hc
    rw [hb44] at hs
    refine go_region ?_
    refine go_pvs 0 2 [1, 3, 4, 36, 37] hs (L' := [(1, .pointer (some ad2)), (3, .pointer (some ad30)), (4, .bool v38), (36, .int .i64 a0.Kind), (37, .bool (a0.Kind == 2))]) (by kernel_rfl) ?_ rfl
    clear hs; intro a hs
    refine go_end (by kernel_rfl) ?_
    replace hw := hw.up 1
    replace hw := hw.up 1
    replace hw := hw.only 2
    exact hJ4 (a0.Kind == 2) _ _ (hs.keep [1, 3, 4, 36, 37] (by kernel_rfl)) hw H
  refine go_region ?_
  refine go_pvs 0 1 [1, 3, 27] hs (L' := [(1, .pointer (some ad2)), (3, .pointer (some ad30)), (27, .pointer (some ((ad2 : Addr).add 1)))]) (by kernel_rfl) ?_ rfl
  clear hs; intro a hs
  refine go_run hs (op := (Op.load 3 (Operand.tmp 27))) (ty := 3) (dst := some 28) (g := none) (by kernel_rfl) (by kernel_rfl) (by kernel_rfl) (x_ld (E := eSapi_Instr) (off := 1) (p := (ad2 : Addr).add 1) (v := .int .i64 a0.Op) (Rd.of_own (hw.up 1)) (one_ok a0).1 (one_ok a0).2 (by kernel_rfl) (one_off _ _ _) (by kernel_rfl) (by kernel_rfl)) [1, 3, 28] (L' := [(1, .pointer (some ad2)), (3, .pointer (some ad30)), (28, .int .i64 a0.Op)]) (by kernel_rfl) ?_
  clear hs; intro a hs
  refine go_pvs 2 4 [1, 3, 30] hs (L' := [(1, .pointer (some ad2)), (3, .pointer (some ad30)), (30, .bool (decide (a0.Op ≥ 8)))]) (by kernel_rfl) ?_ rfl
  clear hs; intro a hs
  cases hb37 : (decide (a0.Op ≥ 8))
  ·replace H := ite_f H (of_decide_eq_false hb37)
   rw [hb37] at hs
   refine go_pvs 4 9 [1, 3, 4] hs (L' := [(1, .pointer (some ad2)), (3, .pointer (some ad30)), (4, .bool false)]) (by kernel_rfl) ?_ rfl
   clear hs; intro a hs
   refine go_end (by kernel_rfl) ?_
   replace hw := hw.up 1
   replace hw := hw.up 1
   replace hw := hw.only 2
   exact hJ3 false _ _ (hs.keep [1, 3, 4] (by kernel_rfl)) hw H
  ·replace H := ite_t H (of_decide_eq_true hb37)
   rw [hb37] at hs
   refine go_pvs 4 5 [1, 3, 30, 31] hs (L' := [(1, .pointer (some ad2)), (3, .pointer (some ad30)), (30, .bool true), (31, .pointer (some ((ad2 : Addr).add 1)))]) (by kernel_rfl) ?_ rfl
   clear hs; intro a hs
   refine go_run hs (op := (Op.load 3 (Operand.tmp 31))) (ty := 3) (dst := some 32) (g := some (3, true)) (by kernel_rfl) (by kernel_rfl) (by kernel_rfl) (x_ld (E := eSapi_Instr) (off := 1) (p := (ad2 : Addr).add 1) (v := .int .i64 a0.Op) (Rd.of_own (hw.up 1)) (one_ok a0).1 (one_ok a0).2 (by kernel_rfl) (one_off _ _ _) (by kernel_rfl) (by kernel_rfl)) [1, 3, 30, 32] (L' := [(1, .pointer (some ad2)), (3, .pointer (some ad30)), (30, .bool true), (32, .int .i64 a0.Op)]) (by kernel_rfl) ?_
   clear hs; intro a hs
   refine go_pvs 6 9 [1, 3, 4] hs (L' := [(1, .pointer (some ad2)), (3, .pointer (some ad30)), (4, .bool (decide (a0.Op ≤ 10)))]) (by kernel_rfl) ?_ rfl
   clear hs; intro a hs
   refine go_end (by kernel_rfl) ?_
   replace hw := hw.up 1
   replace hw := hw.up 1
   replace hw := hw.only 2
   exact hJ3 (decide (a0.Op ≤ 10)) _ _ (hs.keep [1, 3, 4] (by kernel_rfl)) hw H
 refine go_seq_k fun K7 hK7 => ?_
 have hJ1 : ∀ (v25 : Bool) (a : Act) (w : World), Slots a 186 [(1, .pointer (some ad2)), (21, .bool v25)] → St [] w0 w [own 27 eSapi_Instr (some ad2) 1 [a0]] → rivetref03_May.j1 a0 v25 = some r → K7 a w := by
  intro v25 a w hs hw H
  unfold rivetref03_May.j1 at H
  refine hK7 _ _ ?_
  refine go_cond hs v25 (by kernel_rfl) (fun hc => ?_) (fun hc => ?_)
  ·replace H := ite_t H hc
   have hb26 := hc
   rw [hb26] at hs
   refine go_seq_k fun K27 hK27 => ?_
   refine go_region ?_
   refine go_pvs 0 1 [2] hs (L' := [(2, .bool false)]) (by kernel_rfl) ?_ rfl
   clear hs; intro a hs
   refine go_end (by kernel_rfl) ?_
   refine hK27 _ _ ?_
   refine wp_ret ?_
   refine th_ret ?_
   obtain rfl := Option.some.inj H
   refine ret1 (t := 2) (v := .bool false) hs (by kernel_rfl) (by kernel_rfl) ?_
   exact ⟨rfl, hw.only 0⟩
  ·replace H := ite_f H (ff hc)
   have hb28 := hc
   rw [hb28] at hs
   refine wp_skip ?_
   replace hw := hw.only 1
   exact hJ2 _ _ (hs.keep [1] (by kernel_rfl)) hw H
 refine go_region ?_
 refine go_pvs 0 1 [1, 6] hs (L' := [(1, .pointer (some ad2)), (6, .pointer (some ((ad2 : Addr).add 2)))]) (by kernel_rfl) ?_ rfl
 clear hs; intro a hs
 refine go_run hs (op := (Op.load 3 (Operand.tmp 6))) (ty := 3) (dst := some 7) (g := none) (by kernel_rfl) (by kernel_rfl) (by kernel_rfl) (x_ld (E := eSapi_Instr) (off := 2) (p := (ad2 : Addr).add 2) (v := .int .i64 a0.A) (Rd.of_own (hw.up 0)) (one_ok a0).1 (one_ok a0).2 (by kernel_rfl) (one_off _ _ _) (by kernel_rfl) (by kernel_rfl)) [1, 7] (L' := [(1, .pointer (some ad2)), (7, .int .i64 a0.A)]) (by kernel_rfl) ?_
 clear hs; intro a hs
 obtain ⟨t9, hx10, H⟩ := bind_some H
 refine go_call hs (op := (Op.call { callee := (Callee.value (Operand.func 48)), args := #[(Operand.tmp 7)], argTypes := #[3] })) (ty := 4) (dst := some 8) (g := none) (by kernel_rfl) (by kernel_rfl) (by kernel_rfl) (f := 48) (args := #[.int .i64 a0.A]) (by kernel_rfl) (rivetref03_reg.calls a0.A t9 _ hx10) ?_
 rintro e wd11 ⟨rfl, hw12⟩
 refine ⟨_, rfl, ?_⟩
 replace hw := hw.call hw12
 intro a hs1
 replace hs : Slots a 186 [(1, .pointer (some ad2)), (8, .bool t9)] := hs1.keep [1, 8] (by kernel_rfl)
 clear hs1
 refine go_pvs 3 5 [1, 10] hs (L' := [(1, .pointer (some ad2)), (10, .bool (!t9))]) (by kernel_rfl) ?_ rfl
 clear hs; intro a hs
 cases hb13 : (!t9)
 ·replace H := ite_t H (nf hb13)
  rw [hb13] at hs
  refine go_pvs 5 6 [1, 10, 11] hs (L' := [(1, .pointer (some ad2)), (10, .bool false), (11, .pointer (some ((ad2 : Addr).add 3)))]) (by kernel_rfl) ?_ rfl
  clear hs; intro a hs
  refine go_run hs (op := (Op.load 3 (Operand.tmp 11))) (ty := 3) (dst := some 12) (g := some (4, false)) (by kernel_rfl) (by kernel_rfl) (by kernel_rfl) (x_ld (E := eSapi_Instr) (off := 3) (p := (ad2 : Addr).add 3) (v := .int .i64 a0.B) (Rd.of_own (hw.up 0)) (one_ok a0).1 (one_ok a0).2 (by kernel_rfl) (one_off _ _ _) (by kernel_rfl) (by kernel_rfl)) [1, 10, 12] (L' := [(1, .pointer (some ad2)), (10, .bool false), (12, .int .i64 a0.B)]) (by kernel_rfl) ?_
  clear hs; intro a hs
  obtain ⟨t15, hx16, H⟩ := bind_some H
  refine go_call hs (op := (Op.call { callee := (Callee.value (Operand.func 48)), args := #[(Operand.tmp 12)], argTypes := #[3] })) (ty := 4) (dst := some 13) (g := some (4, false)) (by kernel_rfl) (by kernel_rfl) (by kernel_rfl) (f := 48) (args := #[.int .i64 a0.B]) (by kernel_rfl) (rivetref03_reg.calls a0.B t15 _ hx16) ?_
  rintro e wd17 ⟨rfl, hw18⟩
  refine ⟨_, rfl, ?_⟩
  replace hw := hw.call hw18
  intro a hs1
  replace hs : Slots a 186 [(1, .pointer (some ad2)), (10, .bool false), (13, .bool t15)] := hs1.keep [1, 10, 13] (by kernel_rfl)
  clear hs1
  refine go_pvs 8 11 [1, 16] hs (L' := [(1, .pointer (some ad2)), (16, .bool (!t15))]) (by kernel_rfl) ?_ rfl
  clear hs; intro a hs
  cases hb19 : (!t15)
  ·replace H := ite_t H (nf hb19)
   rw [hb19] at hs
   refine go_pvs 11 12 [1, 16, 17] hs (L' := [(1, .pointer (some ad2)), (16, .bool false), (17, .pointer (some ((ad2 : Addr).add 4)))]) (by kernel_rfl) ?_ rfl
   clear hs; intro a hs
   refine go_run hs (op := (Op.load 3 (Operand.tmp 17))) (ty := 3) (dst := some 18) (g := some (10, false)) (by kernel_rfl) (by kernel_rfl) (by kernel_rfl) (x_ld (E := eSapi_Instr) (off := 4) (p := (ad2 : Addr).add 4) (v := .int .i64 a0.C) (Rd.of_own (hw.up 0)) (one_ok a0).1 (one_ok a0).2 (by kernel_rfl) (one_off _ _ _) (by kernel_rfl) (by kernel_rfl)) [1, 16, 18] (L' := [(1, .pointer (some ad2)), (16, .bool false), (18, .int .i64 a0.C)]) (by kernel_rfl) ?_
   clear hs; intro a hs
   obtain ⟨t21, hx22, H⟩ := bind_some H
   refine go_call hs (op := (Op.call { callee := (Callee.value (Operand.func 48)), args := #[(Operand.tmp 18)], argTypes := #[3] })) (ty := 4) (dst := some 19) (g := some (10, false)) (by kernel_rfl) (by kernel_rfl) (by kernel_rfl) (f := 48) (args := #[.int .i64 a0.C]) (by kernel_rfl) (rivetref03_reg.calls a0.C t21 _ hx22) ?_
   rintro e wd23 ⟨rfl, hw24⟩
   refine ⟨_, rfl, ?_⟩
   replace hw := hw.call hw24
   intro a hs1
   replace hs : Slots a 186 [(1, .pointer (some ad2)), (16, .bool false), (19, .bool t21)] := hs1.keep [1, 16, 19] (by kernel_rfl)
   clear hs1
   refine go_pvs 14 16 [1, 21] hs (L' := [(1, .pointer (some ad2)), (21, .bool (!t21))]) (by kernel_rfl) ?_ rfl
   clear hs; intro a hs
   refine go_end (by kernel_rfl) ?_
   replace hw := hw.only 1
   exact hJ1 (!t21) _ _ (hs.keep [1, 21] (by kernel_rfl)) hw H
  ·replace H := ite_f H (ff (nt hb19))
   rw [hb19] at hs
   refine go_pvs 11 16 [1, 21] hs (L' := [(1, .pointer (some ad2)), (21, .bool true)]) (by kernel_rfl) ?_ rfl
   clear hs; intro a hs
   refine go_end (by kernel_rfl) ?_
   replace hw := hw.only 1
   exact hJ1 true _ _ (hs.keep [1, 21] (by kernel_rfl)) hw H
 ·replace H := ite_f H (ff (nt hb13))
  rw [hb13] at hs
  refine go_pvs 5 16 [1, 21] hs (L' := [(1, .pointer (some ad2)), (21, .bool true)]) (by kernel_rfl) ?_ rfl
  clear hs; intro a hs
  refine go_end (by kernel_rfl) ?_
  replace hw := hw.only 1
  exact hJ1 true _ _ (hs.keep [1, 21] (by kernel_rfl)) hw H

end Go.Proofs.Ytckefpenekolhaa.T04
