/- YtpbfjcpndmmgoaaT08: Go functions told as plain ones, each with a proof that its call comes to what is told, part 3. Condition of each: that the plain function comes to a value. -/
import Derived.Test.YtpbfjcpndmmgoaaT08b
namespace Go.Proofs.Ytpbfjcpndmmgoaa.T08
open Go Go.RowKit Go.Proofs.Ytpbfjcpndmmgoaa.E
set_option linter.unusedVariables false
set_option linter.unusedSimpArgs false

/-! rivet/rivetlaw08.ChainEmpty: function 8 -/
noncomputable def rivetlaw08_ChainEmpty.j1 (v57 : Int) (v67 : Bool) : Option (Bool × Int ⊕ Bool) := some (.inl (v67, w64 (v57 + 1)))
noncomputable def rivetlaw08_ChainEmpty.j3 (v181 : Bool) : Option Bool := some v181
noncomputable def rivetlaw08_ChainEmpty.j2 (l0 : List Int) (t45 : List Int) (t4 : Bool) (t22 : Int) (t33 : Int) (t21 : Int) (t20 : List Int) (t31 : List Int) (t32 : List Int) (v69 : Bool) : Option Bool := ((chain_Pack (l0.take (mnn (l0.length : Int) 30 : Int).toNat) t45).bind fun ⟨t72, t73, t74⟩ => ((if ([] : List Int).length + t45.length ≤ 17592186044416 then (if (([] : List Int) ++ t45).length + ([((l0.take (mnn (l0.length : Int) 30 : Int).toNat).length : Int)] : List Int).length ≤ 17592186044416 then ((chain_Pack (l0.take (mnn (l0.length : Int) 30 : Int).toNat) ((([] : List Int) ++ t45) ++ ([((l0.take (mnn (l0.length : Int) 30 : Int).toNat).length : Int)] : List Int))).bind fun ⟨t105, t106, t107⟩ => (((chain_Pack (l0.take (mnn (l0.length : Int) 30 : Int).toNat) ([(-1)] : List Int)).bind fun ⟨t121, t122, t123⟩ => (((chain_Unpack (l0.take (mnn (l0.length : Int) 30 : Int).toNat) (w64 (((l0.take (mnn (l0.length : Int) 30 : Int).toNat).length : Int) + 1))).bind fun ⟨t132, t133, t134⟩ => (((chain_Unpack (l0.take (mnn (l0.length : Int) 30 : Int).toNat) (-1)).bind fun ⟨t146, t147, t148⟩ => ((if t4 = true then (if t22 = 0 then (if t33 = 0 then (if t21 = 0 then ((rivetref05_Same t20 (l0.take (mnn (l0.length : Int) 30 : Int).toNat)).bind fun t164 => ((if t164 = true then ((rivetref05_Same t31 (l0.take (mnn (l0.length : Int) 30 : Int).toNat)).bind fun t170 => ((if t170 = true then (if (t32.length : Int) = 0 then (if ((t74 == 8) == v69) = true then (if ((t74 == 0) == (!v69)) = true then (if t107 = 7 then (if t123 = 7 then (if t134 = 10 then rivetlaw08_ChainEmpty.j3 (t148 == 10) else rivetlaw08_ChainEmpty.j3 false) else rivetlaw08_ChainEmpty.j3 false) else rivetlaw08_ChainEmpty.j3 false) else rivetlaw08_ChainEmpty.j3 false) else rivetlaw08_ChainEmpty.j3 false) else rivetlaw08_ChainEmpty.j3 false) else rivetlaw08_ChainEmpty.j3 false))) else rivetlaw08_ChainEmpty.j3 false))) else rivetlaw08_ChainEmpty.j3 false) else rivetlaw08_ChainEmpty.j3 false) else rivetlaw08_ChainEmpty.j3 false) else rivetlaw08_ChainEmpty.j3 false))))))))) else none) else none)))
noncomputable def rivetlaw08_ChainEmpty.b55 (t45 : List Int) (l0 : List Int) (v56 : Bool) (v57 : Int) : Option (Bool × Int ⊕ Bool) := (if v57 < (t45.length : Int) then (if v56 = true then rivetlaw08_ChainEmpty.j1 v57 true else (if 0 ≤ v57 ∧ v57 < (t45.length : Int) then (if 0 ≤ (ix (eI .i64).d t45 v57) ∧ (ix (eI .i64).d t45 v57) < ((l0.take (mnn (l0.length : Int) 30 : Int).toNat).length : Int) then rivetlaw08_ChainEmpty.j1 v57 (decide ((ix (eI .u32).d (l0.take (mnn (l0.length : Int) 30 : Int).toNat) (ix (eI .i64).d t45 v57)) > 65535)) else none) else none)) else some (.inr v56))
noncomputable def rivetlaw08_ChainEmpty (l0 : List Int) (l1 : List Int) : Option Bool := ((rivetlaw08_shown).bind fun t4 => ((if 0 ≤ (mnn (l0.length : Int) 30) ∧ (mnn (l0.length : Int) 30) ≤ (l0.length : Int) then ((chain_Pack (l0.take (mnn (l0.length : Int) 30 : Int).toNat) ([] : List Int)).bind fun ⟨t20, t21, t22⟩ => (((chain_Unpack (l0.take (mnn (l0.length : Int) 30 : Int).toNat) 0).bind fun ⟨t31, t32, t33⟩ => (((rivetref08_Fit l1 ((l0.take (mnn (l0.length : Int) 30 : Int).toNat).length : Int)).bind fun t45 => (((loopO (fun (σ : Bool × Int) => rivetlaw08_ChainEmpty.b55 t45 l0 σ.1 σ.2) (false, 0)).bind fun e => rivetlaw08_ChainEmpty.j2 l0 t45 t4 t22 t33 t21 t20 t31 t32 e))))))) else none)))
set_option maxRecDepth 100000 in
set_option maxHeartbeats 4000000 in
theorem rivetlaw08_ChainEmpty.calls (A0 : Option Addr) (c0 : Nat) (l0 : List Int) (A1 : Option Addr) (c1 : Nat) (l1 : List Int) (r : Bool) (w0 : World) (hr0 : Rd w0 (eI .u32) A0 c0 l0) (hr1 : Rd w0 (eI .u8) A1 c1 l1) (H : rivetlaw08_ChainEmpty l0 l1 = some r) :
    Calls Try.prog 8 #[.slice A0 l0.length c0, .slice A1 l1.length c1] w0 fun e w' => e = .returned (.bool r) ∧ St [] w0 w' [] := by
  have hw : St [] w0 w0 [] := St.nil w0
  unfold rivetlaw08_ChainEmpty at H
  refine go_fn Try.func8 rfl 166 Try.ntmps8 [(0, .slice A0 l0.length c0), (1, .slice A1 l1.length c1)] (by kernel_rfl) rfl ?_
  intro a hs
  refine go_seq_k fun K1 hK1 => ?_
  refine go_region ?_
  refine go_pvs 0 1 [0, 1] hs (L' := [(0, .slice A0 l0.length c0), (1, .slice A1 l1.length c1)]) (by kernel_rfl) ?_ rfl
  clear hs; intro a hs
  refine go_end (by kernel_rfl) ?_
  refine hK1 _ _ ?_
  refine go_seq_k fun K2 hK2 => ?_
  refine go_region ?_
  obtain ⟨t4, hx5, H⟩ := bind_some H
  refine go_call hs (op := (Op.call { callee := (Callee.value (Operand.func 19)), args := #[], argTypes := #[] })) (ty := 4) (dst := some 31) (g := none) (by kernel_rfl) (by kernel_rfl) (by kernel_rfl) (f := 19) (args := #[]) (by kernel_rfl) (rivetlaw08_shown.calls t4 _ hx5) ?_
  rintro e wd6 ⟨rfl, hw7⟩
  refine ⟨_, rfl, ?_⟩
  replace hw := hw.call hw7
  intro a hs1
  replace hs : Slots a 166 [(0, .slice A0 l0.length c0), (1, .slice A1 l1.length c1), (31, .bool t4)] := hs1.keep [0, 1, 31] (by kernel_rfl)
  clear hs1
  refine go_pvs 1 2 [0, 1, 5] hs (L' := [(0, .slice A0 l0.length c0), (1, .slice A1 l1.length c1), (5, .bool t4)]) (by kernel_rfl) ?_ rfl
  clear hs; intro a hs
  refine go_end (by kernel_rfl) ?_
  refine hK2 _ _ ?_
  refine go_seq_k fun K8 hK8 => ?_
  refine go_region ?_
  refine go_pvs 0 1 [1, 5, 32] hs (L' := [(1, .slice A1 l1.length c1), (5, .bool t4), (32, .slice A0 l0.length c0)]) (by kernel_rfl) ?_ rfl
  clear hs; intro a hs
  refine go_inline_k hs (op := (Op.call { callee := (Callee.value (Operand.func 21)), args := #[(Operand.tmp 32)], argTypes := #[22] })) (ty := 22) (dst := some 33) (g := none) (by kernel_rfl) (by kernel_rfl) (by kernel_rfl) (f := 21) (args := #[.slice A0 l0.length c0]) (by kernel_rfl) (fun KR9 hKR9 => ?_)
  refine go_fn Try.func21 rfl 8 Try.ntmps21 [(0, .slice A0 l0.length c0)] (by kernel_rfl) rfl ?_
  clear hs; intro a hs
  refine go_seq_k fun K10 hK10 => ?_
  refine go_region ?_
  refine go_pvs 0 1 [0] hs (L' := [(0, .slice A0 l0.length c0)]) (by kernel_rfl) ?_ rfl
  clear hs; intro a hs
  refine go_end (by kernel_rfl) ?_
  refine hK10 _ _ ?_
  refine go_seq_k fun K11 hK11 => ?_
  refine go_region ?_
  refine go_pvs 0 4 [3, 6] hs (L' := [(3, .slice A0 l0.length c0), (6, .int .i64 (mnn (l0.length : Int) 30))]) (by kernel_rfl) ?_ rfl
  clear hs; intro a hs
  obtain ⟨hp12, H⟩ := ite_only H
  obtain ⟨A13, c14, hx15, hc16⟩ := c_hi (P := Try.prog) (L := [(3, .slice A0 l0.length c0), (6, .int .i64 (mnn (l0.length : Int) 30))]) (ty := 22) (E := (eI .u32)) (T := 23) (t := 22) (x := (Operand.tmp 3)) (y := (Operand.tmp 6)) (k := .i64) (by kernel_rfl) (by kernel_rfl) (hr0.old hw) (by kernel_rfl) (by kernel_rfl) hp12.1 hp12.2
  refine go_run hs (op := (Op.slice 22 (Operand.tmp 3) none (some (Operand.tmp 6)) none)) (ty := 22) (dst := some 7) (g := none) (by kernel_rfl) (by kernel_rfl) (by kernel_rfl) hx15 [7] (L' := [(7, .slice A13 (l0.take (mnn (l0.length : Int) 30 : Int).toNat).length c14)]) (by kernel_rfl) ?_
  clear hs; intro a hs
  refine go_pvs 5 6 [2] hs (L' := [(2, .slice A13 (l0.take (mnn (l0.length : Int) 30 : Int).toNat).length c14)]) (by kernel_rfl) ?_ rfl
  clear hs; intro a hs
  refine go_end (by kernel_rfl) ?_
  refine hK11 _ _ ?_
  refine wp_ret ?_
  refine ret1 (t := 2) (v := .slice A13 (l0.take (mnn (l0.length : Int) 30 : Int).toNat).length c14) hs (by kernel_rfl) (by kernel_rfl) ?_
  refine ⟨_, rfl, ?_⟩
  refine hKR9 _ _ ?_
  intro a hs1
  have hs : Slots a _ [(1, .slice A1 l1.length c1), (5, .bool t4), (33, .slice A13 (l0.take (mnn (l0.length : Int) 30 : Int).toNat).length c14)] := hs1.keep [1, 5, 33] (by kernel_rfl)
  clear hs1
  refine go_pvs 2 3 [1, 5, 6] hs (L' := [(1, .slice A1 l1.length c1), (5, .bool t4), (6, .slice A13 (l0.take (mnn (l0.length : Int) 30 : Int).toNat).length c14)]) (by kernel_rfl) ?_ rfl
  clear hs; intro a hs
  refine go_end (by kernel_rfl) ?_
  refine hK8 _ _ ?_
  refine go_seq_k fun K18 hK18 => ?_
  refine go_region ?_
  refine go_pvs 0 1 [1, 5, 6, 35] hs (L' := [(1, .slice A1 l1.length c1), (5, .bool t4), (6, .slice A13 (l0.take (mnn (l0.length : Int) 30 : Int).toNat).length c14), (35, .slice A13 (l0.take (mnn (l0.length : Int) 30 : Int).toNat).length c14)]) (by kernel_rfl) ?_ rfl
  clear hs; intro a hs
  obtain ⟨⟨t20, t21, t22⟩, hx23, H⟩ := bind_some H
  refine go_call hs (op := (Op.call { callee := (Callee.value (Operand.func 20)), args := #[(Operand.tmp 35), (Operand.const (Value.slice none 0 0))], argTypes := #[22, 35] })) (ty := 36) (dst := some 36) (g := none) (by kernel_rfl) (by kernel_rfl) (by kernel_rfl) (f := 20) (args := #[.slice A13 (l0.take (mnn (l0.length : Int) 30 : Int).toNat).length c14, .slice none 0 0]) (by kernel_rfl) (chain_Pack.calls A13 c14 (l0.take (mnn (l0.length : Int) 30 : Int).toNat) none 0 ([] : List Int) (t20, t21, t22) _ (hc16 _ (hr0.old hw)) (Rd.nil _ _) hx23) ?_
  rintro e wd26 ⟨A24, c25, rfl, hw27⟩
  refine ⟨_, rfl, ?_⟩
  replace hw := hw.call hw27
  intro a hs1
  replace hs : Slots a 166 [(1, .slice A1 l1.length c1), (5, .bool t4), (6, .slice A13 (l0.take (mnn (l0.length : Int) 30 : Int).toNat).length c14), (36, .tuple #[.slice A24 t20.length c25, .int .i64 t21, .int .i64 t22])] := hs1.keep [1, 5, 6, 36] (by kernel_rfl)
  clear hs1
  refine go_pvs 2 9 [1, 5, 6, 7, 8, 9] hs (L' := [(1, .slice A1 l1.length c1), (5, .bool t4), (6, .slice A13 (l0.take (mnn (l0.length : Int) 30 : Int).toNat).length c14), (7, .slice A24 t20.length c25), (8, .int .i64 t21), (9, .int .i64 t22)]) (by kernel_rfl) ?_ rfl
  clear hs; intro a hs
  refine go_end (by kernel_rfl) ?_
  refine hK18 _ _ ?_
  refine go_seq_k fun K29 hK29 => ?_
  refine go_region ?_
  refine go_pvs 0 1 [1, 5, 6, 7, 8, 9, 41] hs (L' := [(1, .slice A1 l1.length c1), (5, .bool t4), (6, .slice A13 (l0.take (mnn (l0.length : Int) 30 : Int).toNat).length c14), (7, .slice A24 t20.length c25), (8, .int .i64 t21), (9, .int .i64 t22), (41, .slice A13 (l0.take (mnn (l0.length : Int) 30 : Int).toNat).length c14)]) (by kernel_rfl) ?_ rfl
  clear hs; intro a hs
  obtain ⟨⟨t31, t32, t33⟩, hx34, H⟩ := bind_some H
  refine go_call hs (op := (Op.call { callee := (Callee.value (Operand.func 24)), args := #[(Operand.tmp 41), (Operand.const (Value.int IntKind.i64 0))], argTypes := #[22, 3] })) (ty := 39) (dst := some 42) (g := none) (by kernel_rfl) (by kernel_rfl) (by kernel_rfl) (f := 24) (args := #[.slice A13 (l0.take (mnn (l0.length : Int) 30 : Int).toNat).length c14, .int .i64 0]) (by kernel_rfl) (chain_Unpack.calls A13 c14 (l0.take (mnn (l0.length : Int) 30 : Int).toNat) 0 (t31, t32, t33) _ (hc16 _ (hr0.old hw)) hx34) ?_
  rintro e wd39 ⟨A35, c36, A37, c38, rfl, hw40⟩
  refine ⟨_, rfl, ?_⟩
  replace hw := hw.call hw40
  intro a hs1
  replace hs : Slots a 166 [(1, .slice A1 l1.length c1), (5, .bool t4), (6, .slice A13 (l0.take (mnn (l0.length : Int) 30 : Int).toNat).length c14), (7, .slice A24 t20.length c25), (8, .int .i64 t21), (9, .int .i64 t22), (42, .tuple #[.slice A35 t31.length c36, .slice A37 t32.length c38, .int .i64 t33])] := hs1.keep [1, 5, 6, 7, 8, 9, 42] (by kernel_rfl)
  clear hs1
  refine go_pvs 2 9 [1, 5, 6, 7, 8, 9, 10, 11, 12] hs (L' := [(1, .slice A1 l1.length c1), (5, .bool t4), (6, .slice A13 (l0.take (mnn (l0.length : Int) 30 : Int).toNat).length c14), (7, .slice A24 t20.length c25), (8, .int .i64 t21), (9, .int .i64 t22), (10, .slice A35 t31.length c36), (11, .slice A37 t32.length c38), (12, .int .i64 t33)]) (by kernel_rfl) ?_ rfl
  clear hs; intro a hs
  refine go_end (by kernel_rfl) ?_
  refine hK29 _ _ ?_
  refine go_seq_k fun K43 hK43 => ?_
  refine go_region ?_
  refine go_pvs 0 3 [5, 6, 7, 8, 9, 10, 11, 12, 46, 48] hs (L' := [(5, .bool t4), (6, .slice A13 (l0.take (mnn (l0.length : Int) 30 : Int).toNat).length c14), (7, .slice A24 t20.length c25), (8, .int .i64 t21), (9, .int .i64 t22), (10, .slice A35 t31.length c36), (11, .slice A37 t32.length c38), (12, .int .i64 t33), (46, .slice A1 l1.length c1), (48, .int .i64 ((l0.take (mnn (l0.length : Int) 30 : Int).toNat).length : Int))]) (by kernel_rfl) ?_ rfl
  clear hs; intro a hs
  obtain ⟨t45, hx46, H⟩ := bind_some H
  refine go_call hs (op := (Op.call { callee := (Callee.value (Operand.func 27)), args := #[(Operand.tmp 46), (Operand.tmp 48)], argTypes := #[43, 3] })) (ty := 35) (dst := some 49) (g := none) (by kernel_rfl) (by kernel_rfl) (by kernel_rfl) (f := 27) (args := #[.slice A1 l1.length c1, .int .i64 ((l0.take (mnn (l0.length : Int) 30 : Int).toNat).length : Int)]) (by kernel_rfl) (rivetref08_Fit.calls A1 c1 l1 ((l0.take (mnn (l0.length : Int) 30 : Int).toNat).length : Int) t45 _ (hr1.old hw) hx46) ?_
  rintro e wd49 ⟨A47, c48, rfl, hw50⟩
  refine ⟨_, rfl, ?_⟩
  replace hw := hw.call hw50
  intro a hs1
  replace hs : Slots a 166 [(5, .bool t4), (6, .slice A13 (l0.take (mnn (l0.length : Int) 30 : Int).toNat).length c14), (7, .slice A24 t20.length c25), (8, .int .i64 t21), (9, .int .i64 t22), (10, .slice A35 t31.length c36), (11, .slice A37 t32.length c38), (12, .int .i64 t33), (49, .slice A47 t45.length c48)] := hs1.keep [5, 6, 7, 8, 9, 10, 11, 12, 49] (by kernel_rfl)
  clear hs1
  refine go_pvs 4 5 [5, 6, 7, 8, 9, 10, 11, 12, 13] hs (L' := [(5, .bool t4), (6, .slice A13 (l0.take (mnn (l0.length : Int) 30 : Int).toNat).length c14), (7, .slice A24 t20.length c25), (8, .int .i64 t21), (9, .int .i64 t22), (10, .slice A35 t31.length c36), (11, .slice A37 t32.length c38), (12, .int .i64 t33), (13, .slice A47 t45.length c48)]) (by kernel_rfl) ?_ rfl
  clear hs; intro a hs
  refine go_end (by kernel_rfl) ?_
  refine hK43 _ _ ?_
  refine go_seq_k fun K52 hK52 => ?_
  refine go_region ?_
  refine go_pvs 0 1 [5, 6, 7, 8, 9, 10, 11, 12, 13, 14] hs (L' := [(5, .bool t4), (6, .slice A13 (l0.take (mnn (l0.length : Int) 30 : Int).toNat).length c14), (7, .slice A24 t20.length c25), (8, .int .i64 t21), (9, .int .i64 t22), (10, .slice A35 t31.length c36), (11, .slice A37 t32.length c38), (12, .int .i64 t33), (13, .slice A47 t45.length c48), (14, .bool false)]) (by kernel_rfl) ?_ rfl
  clear hs; intro a hs
  refine go_end (by kernel_rfl) ?_
  refine hK52 _ _ ?_
  refine go_seq_k fun K53 hK53 => ?_
  refine go_seq_k fun K54 hK54 => ?_
  refine go_region ?_
  refine go_pvs 0 1 [5, 6, 7, 8, 9, 10, 11, 12, 13, 14, 15] hs (L' := [(5, .bool t4), (6, .slice A13 (l0.take (mnn (l0.length : Int) 30 : Int).toNat).length c14), (7, .slice A24 t20.length c25), (8, .int .i64 t21), (9, .int .i64 t22), (10, .slice A35 t31.length c36), (11, .slice A37 t32.length c38), (12, .int .i64 t33), (13, .slice A47 t45.length c48), (14, .bool false), (15, .int .i64 0)]) (by kernel_rfl) ?_ rfl
  clear hs; intro a hs
  refine go_end (by kernel_rfl) ?_
  refine hK54 _ _ ?_
  refine wp_block ?_
  obtain ⟨e55, hl55, HX55⟩ := bind_some H
  have hJ2 : ∀ (v69 : Bool) (a : Act) (w : World), Slots a 166 [(5, .bool t4), (6, .slice A13 (l0.take (mnn (l0.length : Int) 30 : Int).toNat).length c14), (7, .slice A24 t20.length c25), (8, .int .i64 t21), (9, .int .i64 t22), (10, .slice A35 t31.length c36), (11, .slice A37 t32.length c38), (12, .int .i64 t33), (13, .slice A47 t45.length c48), (14, .bool v69)] → St [] w0 w [own 3 (eI .i64) A47 c48 t45, own 23 (eI .u32) A35 c36 t31, own 3 (eI .i64) A37 c38 t32, own 23 (eI .u32) A24 c25 t20] → rivetlaw08_ChainEmpty.j2 l0 t45 t4 t22 t33 t21 t20 t31 t32 v69 = some r → K53 a w := by
    intro v69 a w hs hw H
    unfold rivetlaw08_ChainEmpty.j2 at H
    refine hK53 _ _ ?_
    refine go_seq_k fun K70 hK70 => ?_
    refine go_region ?_
    refine go_pvs 0 2 [5, 6, 7, 8, 9, 10, 11, 12, 13, 14, 68, 69] hs (L' := [(5, .bool t4), (6, .slice A13 (l0.take (mnn (l0.length : Int) 30 : Int).toNat).length c14), (7, .slice A24 t20.length c25), (8, .int .i64 t21), (9, .int .i64 t22), (10, .slice A35 t31.length c36), (11, .slice A37 t32.length c38), (12, .int .i64 t33), (13, .slice A47 t45.length c48), (14, .bool v69), (68, .slice A13 (l0.take (mnn (l0.length : Int) 30 : Int).toNat).length c14), (69, .slice A47 t45.length c48)]) (by kernel_rfl) ?_ rfl
    clear hs; intro a hs
    obtain ⟨⟨t72, t73, t74⟩, hx75, H⟩ := bind_some H
    refine go_call hs (op := (Op.call { callee := (Callee.value (Operand.func 20)), args := #[(Operand.tmp 68), (Operand.tmp 69)], argTypes := #[22, 35] })) (ty := 36) (dst := some 70) (g := none) (by kernel_rfl) (by kernel_rfl) (by kernel_rfl) (f := 20) (args := #[.slice A13 (l0.take (mnn (l0.length : Int) 30 : Int).toNat).length c14, .slice A47 t45.length c48]) (by kernel_rfl) (chain_Pack.calls A13 c14 (l0.take (mnn (l0.length : Int) 30 : Int).toNat) A47 c48 t45 (t72, t73, t74) _ (hc16 _ (hr0.old hw)) (Rd.of_own (hw.up 0)) hx75) ?_
    rintro e wd78 ⟨A76, c77, rfl, hw79⟩
    refine ⟨_, rfl, ?_⟩
    replace hw := hw.call hw79
    intro a hs1
    replace hs : Slots a 166 [(5, .bool t4), (6, .slice A13 (l0.take (mnn (l0.length : Int) 30 : Int).toNat).length c14), (7, .slice A24 t20.length c25), (8, .int .i64 t21), (9, .int .i64 t22), (10, .slice A35 t31.length c36), (11, .slice A37 t32.length c38), (12, .int .i64 t33), (13, .slice A47 t45.length c48), (14, .bool v69), (70, .tuple #[.slice A76 t72.length c77, .int .i64 t73, .int .i64 t74])] := hs1.keep [5, 6, 7, 8, 9, 10, 11, 12, 13, 14, 70] (by kernel_rfl)
    clear hs1
    refine go_pvs 3 10 [5, 6, 7, 8, 9, 10, 11, 12, 13, 14, 18] hs (L' := [(5, .bool t4), (6, .slice A13 (l0.take (mnn (l0.length : Int) 30 : Int).toNat).length c14), (7, .slice A24 t20.length c25), (8, .int .i64 t21), (9, .int .i64 t22), (10, .slice A35 t31.length c36), (11, .slice A37 t32.length c38), (12, .int .i64 t33), (13, .slice A47 t45.length c48), (14, .bool v69), (18, .int .i64 t74)]) (by kernel_rfl) ?_ rfl
    clear hs; intro a hs
    refine go_end (by kernel_rfl) ?_
    refine hK70 _ _ ?_
    refine go_seq_k fun K81 hK81 => ?_
    refine go_region ?_
    refine go_pvs 0 1 [5, 6, 7, 8, 9, 10, 11, 12, 13, 14, 18, 75] hs (L' := [(5, .bool t4), (6, .slice A13 (l0.take (mnn (l0.length : Int) 30 : Int).toNat).length c14), (7, .slice A24 t20.length c25), (8, .int .i64 t21), (9, .int .i64 t22), (10, .slice A35 t31.length c36), (11, .slice A37 t32.length c38), (12, .int .i64 t33), (13, .slice A47 t45.length c48), (14, .bool v69), (18, .int .i64 t74), (75, .slice A13 (l0.take (mnn (l0.length : Int) 30 : Int).toNat).length c14)]) (by kernel_rfl) ?_ rfl
    clear hs; intro a hs
    obtain ⟨A82, c83, wd84, hx85, hw⟩ := n_lit0 (P := Try.prog) (L := [(5, .bool t4), (6, .slice A13 (l0.take (mnn (l0.length : Int) 30 : Int).toNat).length c14), (7, .slice A24 t20.length c25), (8, .int .i64 t21), (9, .int .i64 t22), (10, .slice A35 t31.length c36), (11, .slice A37 t32.length c38), (12, .int .i64 t33), (13, .slice A47 t45.length c48), (14, .bool v69), (18, .int .i64 t74), (75, .slice A13 (l0.take (mnn (l0.length : Int) 30 : Int).toNat).length c14)]) (t := 35) (ty := 35) (T := 3) hw (eI .i64) (by kernel_rfl) (by kernel_rfl)
    refine go_run hs (op := (Op.buildSlice 35 0 #[])) (ty := 35) (dst := some 76) (g := none) (by kernel_rfl) (by kernel_rfl) (by kernel_rfl) hx85 [5, 6, 7, 8, 9, 10, 11, 12, 13, 14, 18, 75, 76] (L' := [(5, .bool t4), (6, .slice A13 (l0.take (mnn (l0.length : Int) 30 : Int).toNat).length c14), (7, .slice A24 t20.length c25), (8, .int .i64 t21), (9, .int .i64 t22), (10, .slice A35 t31.length c36), (11, .slice A37 t32.length c38), (12, .int .i64 t33), (13, .slice A47 t45.length c48), (14, .bool v69), (18, .int .i64 t74), (75, .slice A13 (l0.take (mnn (l0.length : Int) 30 : Int).toNat).length c14), (76, .slice A82 ([] : List Int).length c83)]) (by kernel_rfl) ?_
    clear hs; intro a hs
    refine go_pvs 2 3 [5, 6, 7, 8, 9, 10, 11, 12, 14, 18, 75, 76, 77] hs (L' := [(5, .bool t4), (6, .slice A13 (l0.take (mnn (l0.length : Int) 30 : Int).toNat).length c14), (7, .slice A24 t20.length c25), (8, .int .i64 t21), (9, .int .i64 t22), (10, .slice A35 t31.length c36), (11, .slice A37 t32.length c38), (12, .int .i64 t33), (14, .bool v69), (18, .int .i64 t74), (75, .slice A13 (l0.take (mnn (l0.length : Int) 30 : Int).toNat).length c14), (76, .slice A82 ([] : List Int).length c83), (77, .slice A47 t45.length c48)]) (by kernel_rfl) ?_ rfl
    clear hs; intro a hs
    obtain ⟨hp87, H⟩ := ite_only H
    have hsrc92 : Src Try.prog (eI .i64).sz 35 (.slice A47 t45.length c48) t45.length (t45.flatMap (eI .i64).enc) _ := (Src.of_rd (E := (eI .i64)) (e' := 3) (by kernel_rfl) (Rd.of_own (hw.up 2)))
    obtain ⟨A88, c89, wd90, hx91, hw⟩ := x_append (P := Try.prog) (L := [(5, .bool t4), (6, .slice A13 (l0.take (mnn (l0.length : Int) 30 : Int).toNat).length c14), (7, .slice A24 t20.length c25), (8, .int .i64 t21), (9, .int .i64 t22), (10, .slice A35 t31.length c36), (11, .slice A37 t32.length c38), (12, .int .i64 t33), (14, .bool v69), (18, .int .i64 t74), (75, .slice A13 (l0.take (mnn (l0.length : Int) 30 : Int).toNat).length c14), (76, .slice A82 ([] : List Int).length c83), (77, .slice A47 t45.length c48)]) (t := 35) (tx := 35) (ty := 35) (x := (Operand.tmp 76)) (y := (Operand.tmp 77)) (z := .int .i64 0) (bytes := 8) (l2 := t45) hw (by kernel_rfl) (by kernel_rfl) (by kernel_rfl) (by kernel_rfl) (by kernel_rfl) hsrc92 (by omega) (by omega)
    refine go_run hs (op := (Op.call { callee := (Callee.builtin Builtin.append), args := #[(Operand.tmp 76), (Operand.tmp 77)], argTypes := #[35, 35] })) (ty := 35) (dst := some 78) (g := none) (by kernel_rfl) (by kernel_rfl) (by kernel_rfl) hx91 [5, 6, 7, 8, 9, 10, 11, 12, 14, 18, 75, 78] (L' := [(5, .bool t4), (6, .slice A13 (l0.take (mnn (l0.length : Int) 30 : Int).toNat).length c14), (7, .slice A24 t20.length c25), (8, .int .i64 t21), (9, .int .i64 t22), (10, .slice A35 t31.length c36), (11, .slice A37 t32.length c38), (12, .int .i64 t33), (14, .bool v69), (18, .int .i64 t74), (75, .slice A13 (l0.take (mnn (l0.length : Int) 30 : Int).toNat).length c14), (78, .slice A88 (([] : List Int) ++ t45).length c89)]) (by kernel_rfl) ?_
    clear hs; intro a hs
    refine go_pvs 4 6 [5, 6, 7, 8, 9, 10, 11, 12, 14, 18, 75, 78, 80] hs (L' := [(5, .bool t4), (6, .slice A13 (l0.take (mnn (l0.length : Int) 30 : Int).toNat).length c14), (7, .slice A24 t20.length c25), (8, .int .i64 t21), (9, .int .i64 t22), (10, .slice A35 t31.length c36), (11, .slice A37 t32.length c38), (12, .int .i64 t33), (14, .bool v69), (18, .int .i64 t74), (75, .slice A13 (l0.take (mnn (l0.length : Int) 30 : Int).toNat).length c14), (78, .slice A88 (([] : List Int) ++ t45).length c89), (80, .int .i64 ((l0.take (mnn (l0.length : Int) 30 : Int).toNat).length : Int))]) (by kernel_rfl) ?_ rfl
    clear hs; intro a hs
    obtain ⟨A93, c94, wd95, hx96, hw⟩ := n_lit (P := Try.prog) (L := [(5, .bool t4), (6, .slice A13 (l0.take (mnn (l0.length : Int) 30 : Int).toNat).length c14), (7, .slice A24 t20.length c25), (8, .int .i64 t21), (9, .int .i64 t22), (10, .slice A35 t31.length c36), (11, .slice A37 t32.length c38), (12, .int .i64 t33), (14, .bool v69), (18, .int .i64 t74), (75, .slice A13 (l0.take (mnn (l0.length : Int) 30 : Int).toNat).length c14), (78, .slice A88 (([] : List Int) ++ t45).length c89), (80, .int .i64 ((l0.take (mnn (l0.length : Int) 30 : Int).toNat).length : Int))]) (t := 35) (ty := 35) (T := 3) (len := 1) (parts := #[(0, (Operand.tmp 80))]) (z := .int .i64 0) (bytes := 8) (cells := #[.int .i64 ((l0.take (mnn (l0.length : Int) 30 : Int).toNat).length : Int)]) hw (eI .i64) ([((l0.take (mnn (l0.length : Int) 30 : Int).toNat).length : Int)] : List Int) (by kernel_rfl) (by kernel_rfl) (by kernel_rfl) (by kernel_rfl) (by kernel_rfl) (by kernel_rfl) (by kernel_rfl)
    refine go_run hs (op := (Op.buildSlice 35 1 #[(0, (Operand.tmp 80))])) (ty := 35) (dst := some 81) (g := none) (by kernel_rfl) (by kernel_rfl) (by kernel_rfl) hx96 [5, 6, 7, 8, 9, 10, 11, 12, 14, 18, 75, 78, 81] (L' := [(5, .bool t4), (6, .slice A13 (l0.take (mnn (l0.length : Int) 30 : Int).toNat).length c14), (7, .slice A24 t20.length c25), (8, .int .i64 t21), (9, .int .i64 t22), (10, .slice A35 t31.length c36), (11, .slice A37 t32.length c38), (12, .int .i64 t33), (14, .bool v69), (18, .int .i64 t74), (75, .slice A13 (l0.take (mnn (l0.length : Int) 30 : Int).toNat).length c14), (78, .slice A88 (([] : List Int) ++ t45).length c89), (81, .slice A93 ([((l0.take (mnn (l0.length : Int) 30 : Int).toNat).length : Int)] : List Int).length c94)]) (by kernel_rfl) ?_
    clear hs; intro a hs
    obtain ⟨hp98, H⟩ := ite_only H
    have hsrc103 : Src Try.prog (eI .i64).sz 35 (.slice A93 ([((l0.take (mnn (l0.length : Int) 30 : Int).toNat).length : Int)] : List Int).length c94) ([((l0.take (mnn (l0.length : Int) 30 : Int).toNat).length : Int)] : List Int).length (([((l0.take (mnn (l0.length : Int) 30 : Int).toNat).length : Int)] : List Int).flatMap (eI .i64).enc) _ := (Src.of_rd (E := (eI .i64)) (e' := 3) (by kernel_rfl) (Rd.of_own (hw.up 0)))
    replace hw := hw.up 1
    obtain ⟨A99, c100, wd101, hx102, hw⟩ := x_append (P := Try.prog) (L := [(5, .bool t4), (6, .slice A13 (l0.take (mnn (l0.length : Int) 30 : Int).toNat).length c14), (7, .slice A24 t20.length c25), (8, .int .i64 t21), (9, .int .i64 t22), (10, .slice A35 t31.length c36), (11, .slice A37 t32.length c38), (12, .int .i64 t33), (14, .bool v69), (18, .int .i64 t74), (75, .slice A13 (l0.take (mnn (l0.length : Int) 30 : Int).toNat).length c14), (78, .slice A88 (([] : List Int) ++ t45).length c89), (81, .slice A93 ([((l0.take (mnn (l0.length : Int) 30 : Int).toNat).length : Int)] : List Int).length c94)]) (t := 35) (tx := 35) (ty := 35) (x := (Operand.tmp 78)) (y := (Operand.tmp 81)) (z := .int .i64 0) (bytes := 8) (l2 := ([((l0.take (mnn (l0.length : Int) 30 : Int).toNat).length : Int)] : List Int)) hw (by kernel_rfl) (by kernel_rfl) (by kernel_rfl) (by kernel_rfl) (by kernel_rfl) hsrc103 (by omega) (by omega)
    refine go_run hs (op := (Op.call { callee := (Callee.builtin Builtin.append), args := #[(Operand.tmp 78), (Operand.tmp 81)], argTypes := #[35, 35] })) (ty := 35) (dst := some 82) (g := none) (by kernel_rfl) (by kernel_rfl) (by kernel_rfl) hx102 [5, 6, 7, 8, 9, 10, 11, 12, 14, 18, 75, 82] (L' := [(5, .bool t4), (6, .slice A13 (l0.take (mnn (l0.length : Int) 30 : Int).toNat).length c14), (7, .slice A24 t20.length c25), (8, .int .i64 t21), (9, .int .i64 t22), (10, .slice A35 t31.length c36), (11, .slice A37 t32.length c38), (12, .int .i64 t33), (14, .bool v69), (18, .int .i64 t74), (75, .slice A13 (l0.take (mnn (l0.length : Int) 30 : Int).toNat).length c14), (82, .slice A99 ((([] : List Int) ++ t45) ++ ([((l0.take (mnn (l0.length : Int) 30 : Int).toNat).length : Int)] : List Int)).length c100)]) (by kernel_rfl) ?_
    clear hs; intro a hs
    obtain ⟨⟨t105, t106, t107⟩, hx108, H⟩ := bind_some H
    refine go_call hs (op := (Op.call { callee := (Callee.value (Operand.func 20)), args := #[(Operand.tmp 75), (Operand.tmp 82)], argTypes := #[22, 35] })) (ty := 36) (dst := some 83) (g := none) (by kernel_rfl) (by kernel_rfl) (by kernel_rfl) (f := 20) (args := #[.slice A13 (l0.take (mnn (l0.length : Int) 30 : Int).toNat).length c14, .slice A99 ((([] : List Int) ++ t45) ++ ([((l0.take (mnn (l0.length : Int) 30 : Int).toNat).length : Int)] : List Int)).length c100]) (by kernel_rfl) (chain_Pack.calls A13 c14 (l0.take (mnn (l0.length : Int) 30 : Int).toNat) A99 c100 ((([] : List Int) ++ t45) ++ ([((l0.take (mnn (l0.length : Int) 30 : Int).toNat).length : Int)] : List Int)) (t105, t106, t107) _ (hc16 _ (hr0.old hw)) (Rd.of_own (hw.up 0)) hx108) ?_
    rintro e wd111 ⟨A109, c110, rfl, hw112⟩
    refine ⟨_, rfl, ?_⟩
    replace hw := hw.call hw112
    intro a hs1
    replace hs : Slots a 166 [(5, .bool t4), (6, .slice A13 (l0.take (mnn (l0.length : Int) 30 : Int).toNat).length c14), (7, .slice A24 t20.length c25), (8, .int .i64 t21), (9, .int .i64 t22), (10, .slice A35 t31.length c36), (11, .slice A37 t32.length c38), (12, .int .i64 t33), (14, .bool v69), (18, .int .i64 t74), (83, .tuple #[.slice A109 t105.length c110, .int .i64 t106, .int .i64 t107])] := hs1.keep [5, 6, 7, 8, 9, 10, 11, 12, 14, 18, 83] (by kernel_rfl)
    clear hs1
    refine go_pvs 9 16 [5, 6, 7, 8, 9, 10, 11, 12, 14, 18, 21] hs (L' := [(5, .bool t4), (6, .slice A13 (l0.take (mnn (l0.length : Int) 30 : Int).toNat).length c14), (7, .slice A24 t20.length c25), (8, .int .i64 t21), (9, .int .i64 t22), (10, .slice A35 t31.length c36), (11, .slice A37 t32.length c38), (12, .int .i64 t33), (14, .bool v69), (18, .int .i64 t74), (21, .int .i64 t107)]) (by kernel_rfl) ?_ rfl
    clear hs; intro a hs
    refine go_end (by kernel_rfl) ?_
    refine hK81 _ _ ?_
    refine go_seq_k fun K114 hK114 => ?_
    refine go_region ?_
    refine go_pvs 0 1 [5, 6, 7, 8, 9, 10, 11, 12, 14, 18, 21, 88] hs (L' := [(5, .bool t4), (6, .slice A13 (l0.take (mnn (l0.length : Int) 30 : Int).toNat).length c14), (7, .slice A24 t20.length c25), (8, .int .i64 t21), (9, .int .i64 t22), (10, .slice A35 t31.length c36), (11, .slice A37 t32.length c38), (12, .int .i64 t33), (14, .bool v69), (18, .int .i64 t74), (21, .int .i64 t107), (88, .slice A13 (l0.take (mnn (l0.length : Int) 30 : Int).toNat).length c14)]) (by kernel_rfl) ?_ rfl
    clear hs; intro a hs
    obtain ⟨A115, c116, wd117, hx118, hw⟩ := n_lit (P := Try.prog) (L := [(5, .bool t4), (6, .slice A13 (l0.take (mnn (l0.length : Int) 30 : Int).toNat).length c14), (7, .slice A24 t20.length c25), (8, .int .i64 t21), (9, .int .i64 t22), (10, .slice A35 t31.length c36), (11, .slice A37 t32.length c38), (12, .int .i64 t33), (14, .bool v69), (18, .int .i64 t74), (21, .int .i64 t107), (88, .slice A13 (l0.take (mnn (l0.length : Int) 30 : Int).toNat).length c14)]) (t := 35) (ty := 35) (T := 3) (len := 1) (parts := #[(0, (Operand.const (Value.int IntKind.i64 (-1))))]) (z := .int .i64 0) (bytes := 8) (cells := #[.int .i64 (-1)]) hw (eI .i64) ([(-1)] : List Int) (by kernel_rfl) (by kernel_rfl) (by kernel_rfl) (by kernel_rfl) (by kernel_rfl) (by kernel_rfl) (by kernel_rfl)
    refine go_run hs (op := (Op.buildSlice 35 1 #[(0, (Operand.const (Value.int IntKind.i64 (-1))))])) (ty := 35) (dst := some 89) (g := none) (by kernel_rfl) (by kernel_rfl) (by kernel_rfl) hx118 [5, 6, 7, 8, 9, 10, 11, 12, 14, 18, 21, 88, 89] (L' := [(5, .bool t4), (6, .slice A13 (l0.take (mnn (l0.length : Int) 30 : Int).toNat).length c14), (7, .slice A24 t20.length c25), (8, .int .i64 t21), (9, .int .i64 t22), (10, .slice A35 t31.length c36), (11, .slice A37 t32.length c38), (12, .int .i64 t33), (14, .bool v69), (18, .int .i64 t74), (21, .int .i64 t107), (88, .slice A13 (l0.take (mnn (l0.length : Int) 30 : Int).toNat).length c14), (89, .slice A115 ([(-1)] : List Int).length c116)]) (by kernel_rfl) ?_
    clear hs; intro a hs
    obtain ⟨⟨t121, t122, t123⟩, hx124, H⟩ := bind_some H
    refine go_call hs (op := (Op.call { callee := (Callee.value (Operand.func 20)), args := #[(Operand.tmp 88), (Operand.tmp 89)], argTypes := #[22, 35] })) (ty := 36) (dst := some 90) (g := none) (by kernel_rfl) (by kernel_rfl) (by kernel_rfl) (f := 20) (args := #[.slice A13 (l0.take (mnn (l0.length : Int) 30 : Int).toNat).length c14, .slice A115 ([(-1)] : List Int).length c116]) (by kernel_rfl) (chain_Pack.calls A13 c14 (l0.take (mnn (l0.length : Int) 30 : Int).toNat) A115 c116 ([(-1)] : List Int) (t121, t122, t123) _ (hc16 _ (hr0.old hw)) (Rd.of_own (hw.up 0)) hx124) ?_
    rintro e wd127 ⟨A125, c126, rfl, hw128⟩
    refine ⟨_, rfl, ?_⟩
    replace hw := hw.call hw128
    intro a hs1
    replace hs : Slots a 166 [(5, .bool t4), (6, .slice A13 (l0.take (mnn (l0.length : Int) 30 : Int).toNat).length c14), (7, .slice A24 t20.length c25), (8, .int .i64 t21), (9, .int .i64 t22), (10, .slice A35 t31.length c36), (11, .slice A37 t32.length c38), (12, .int .i64 t33), (14, .bool v69), (18, .int .i64 t74), (21, .int .i64 t107), (90, .tuple #[.slice A125 t121.length c126, .int .i64 t122, .int .i64 t123])] := hs1.keep [5, 6, 7, 8, 9, 10, 11, 12, 14, 18, 21, 90] (by kernel_rfl)
    clear hs1
    refine go_pvs 3 10 [5, 6, 7, 8, 9, 10, 11, 12, 14, 18, 21, 24] hs (L' := [(5, .bool t4), (6, .slice A13 (l0.take (mnn (l0.length : Int) 30 : Int).toNat).length c14), (7, .slice A24 t20.length c25), (8, .int .i64 t21), (9, .int .i64 t22), (10, .slice A35 t31.length c36), (11, .slice A37 t32.length c38), (12, .int .i64 t33), (14, .bool v69), (18, .int .i64 t74), (21, .int .i64 t107), (24, .int .i64 t123)]) (by kernel_rfl) ?_ rfl
    clear hs; intro a hs
    refine go_end (by kernel_rfl) ?_
    refine hK114 _ _ ?_
    refine go_seq_k fun K130 hK130 => ?_
    refine go_region ?_
    refine go_pvs 0 4 [5, 6, 7, 8, 9, 10, 11, 12, 14, 18, 21, 24, 95, 98] hs (L' := [(5, .bool t4), (6, .slice A13 (l0.take (mnn (l0.length : Int) 30 : Int).toNat).length c14), (7, .slice A24 t20.length c25), (8, .int .i64 t21), (9, .int .i64 t22), (10, .slice A35 t31.length c36), (11, .slice A37 t32.length c38), (12, .int .i64 t33), (14, .bool v69), (18, .int .i64 t74), (21, .int .i64 t107), (24, .int .i64 t123), (95, .slice A13 (l0.take (mnn (l0.length : Int) 30 : Int).toNat).length c14), (98, .int .i64 (w64 (((l0.take (mnn (l0.length : Int) 30 : Int).toNat).length : Int) + 1)))]) (by kernel_rfl) ?_ rfl
    clear hs; intro a hs
    obtain ⟨⟨t132, t133, t134⟩, hx135, H⟩ := bind_some H
    refine go_call hs (op := (Op.call { callee := (Callee.value (Operand.func 24)), args := #[(Operand.tmp 95), (Operand.tmp 98)], argTypes := #[22, 3] })) (ty := 39) (dst := some 99) (g := none) (by kernel_rfl) (by kernel_rfl) (by kernel_rfl) (f := 24) (args := #[.slice A13 (l0.take (mnn (l0.length : Int) 30 : Int).toNat).length c14, .int .i64 (w64 (((l0.take (mnn (l0.length : Int) 30 : Int).toNat).length : Int) + 1))]) (by kernel_rfl) (chain_Unpack.calls A13 c14 (l0.take (mnn (l0.length : Int) 30 : Int).toNat) (w64 (((l0.take (mnn (l0.length : Int) 30 : Int).toNat).length : Int) + 1)) (t132, t133, t134) _ (hc16 _ (hr0.old hw)) hx135) ?_
    rintro e wd140 ⟨A136, c137, A138, c139, rfl, hw141⟩
    refine ⟨_, rfl, ?_⟩
    replace hw := hw.call hw141
    intro a hs1
    replace hs : Slots a 166 [(5, .bool t4), (6, .slice A13 (l0.take (mnn (l0.length : Int) 30 : Int).toNat).length c14), (7, .slice A24 t20.length c25), (8, .int .i64 t21), (9, .int .i64 t22), (10, .slice A35 t31.length c36), (11, .slice A37 t32.length c38), (12, .int .i64 t33), (14, .bool v69), (18, .int .i64 t74), (21, .int .i64 t107), (24, .int .i64 t123), (99, .tuple #[.slice A136 t132.length c137, .slice A138 t133.length c139, .int .i64 t134])] := hs1.keep [5, 6, 7, 8, 9, 10, 11, 12, 14, 18, 21, 24, 99] (by kernel_rfl)
    clear hs1
    refine go_pvs 5 12 [5, 6, 7, 8, 9, 10, 11, 12, 14, 18, 21, 24, 27] hs (L' := [(5, .bool t4), (6, .slice A13 (l0.take (mnn (l0.length : Int) 30 : Int).toNat).length c14), (7, .slice A24 t20.length c25), (8, .int .i64 t21), (9, .int .i64 t22), (10, .slice A35 t31.length c36), (11, .slice A37 t32.length c38), (12, .int .i64 t33), (14, .bool v69), (18, .int .i64 t74), (21, .int .i64 t107), (24, .int .i64 t123), (27, .int .i64 t134)]) (by kernel_rfl) ?_ rfl
    clear hs; intro a hs
    refine go_end (by kernel_rfl) ?_
    refine hK130 _ _ ?_
    refine go_seq_k fun K144 hK144 => ?_
    refine go_region ?_
    refine go_pvs 0 1 [5, 6, 7, 8, 9, 10, 11, 12, 14, 18, 21, 24, 27, 104] hs (L' := [(5, .bool t4), (6, .slice A13 (l0.take (mnn (l0.length : Int) 30 : Int).toNat).length c14), (7, .slice A24 t20.length c25), (8, .int .i64 t21), (9, .int .i64 t22), (10, .slice A35 t31.length c36), (11, .slice A37 t32.length c38), (12, .int .i64 t33), (14, .bool v69), (18, .int .i64 t74), (21, .int .i64 t107), (24, .int .i64 t123), (27, .int .i64 t134), (104, .slice A13 (l0.take (mnn (l0.length : Int) 30 : Int).toNat).length c14)]) (by kernel_rfl) ?_ rfl
    clear hs; intro a hs
    obtain ⟨⟨t146, t147, t148⟩, hx149, H⟩ := bind_some H
    refine go_call hs (op := (Op.call { callee := (Callee.value (Operand.func 24)), args := #[(Operand.tmp 104), (Operand.const (Value.int IntKind.i64 (-1)))], argTypes := #[22, 3] })) (ty := 39) (dst := some 105) (g := none) (by kernel_rfl) (by kernel_rfl) (by kernel_rfl) (f := 24) (args := #[.slice A13 (l0.take (mnn (l0.length : Int) 30 : Int).toNat).length c14, .int .i64 (-1)]) (by kernel_rfl) (chain_Unpack.calls A13 c14 (l0.take (mnn (l0.length : Int) 30 : Int).toNat) (-1) (t146, t147, t148) _ (hc16 _ (hr0.old hw)) hx149) ?_
    rintro e wd154 ⟨A150, c151, A152, c153, rfl, hw155⟩
    refine ⟨_, rfl, ?_⟩
    replace hw := hw.call hw155
    intro a hs1
    replace hs : Slots a 166 [(5, .bool t4), (6, .slice A13 (l0.take (mnn (l0.length : Int) 30 : Int).toNat).length c14), (7, .slice A24 t20.length c25), (8, .int .i64 t21), (9, .int .i64 t22), (10, .slice A35 t31.length c36), (11, .slice A37 t32.length c38), (12, .int .i64 t33), (14, .bool v69), (18, .int .i64 t74), (21, .int .i64 t107), (24, .int .i64 t123), (27, .int .i64 t134), (105, .tuple #[.slice A150 t146.length c151, .slice A152 t147.length c153, .int .i64 t148])] := hs1.keep [5, 6, 7, 8, 9, 10, 11, 12, 14, 18, 21, 24, 27, 105] (by kernel_rfl)
    clear hs1
    refine go_pvs 2 9 [5, 6, 7, 8, 9, 10, 11, 12, 14, 18, 21, 24, 27, 30] hs (L' := [(5, .bool t4), (6, .slice A13 (l0.take (mnn (l0.length : Int) 30 : Int).toNat).length c14), (7, .slice A24 t20.length c25), (8, .int .i64 t21), (9, .int .i64 t22), (10, .slice A35 t31.length c36), (11, .slice A37 t32.length c38), (12, .int .i64 t33), (14, .bool v69), (18, .int .i64 t74), (21, .int .i64 t107), (24, .int .i64 t123), (27, .int .i64 t134), (30, .int .i64 t148)]) (by kernel_rfl) ?_ rfl
    clear hs; intro a hs
    refine go_end (by kernel_rfl) ?_
    refine hK144 _ _ ?_
    refine go_seq_k fun K158 hK158 => ?_
    have hJ3 : ∀ (v181 : Bool) (a : Act) (w : World), Slots a 166 [(4, .bool v181)] → St [] w0 w [own 23 (eI .u32) A150 c151 t146, own 3 (eI .i64) A152 c153 t147, own 23 (eI .u32) A136 c137 t132, own 3 (eI .i64) A138 c139 t133, own 23 (eI .u32) A125 c126 t121, own 3 (eI .i64) A115 c116 ([(-1)] : List Int), own 23 (eI .u32) A109 c110 t105, own 3 (eI .i64) A99 c100 ((([] : List Int) ++ t45) ++ ([((l0.take (mnn (l0.length : Int) 30 : Int).toNat).length : Int)] : List Int)), own 3 (eI .i64) A93 c94 ([((l0.take (mnn (l0.length : Int) 30 : Int).toNat).length : Int)] : List Int), own 23 (eI .u32) A76 c77 t72, own 3 (eI .i64) A47 c48 t45, own 23 (eI .u32) A35 c36 t31, own 3 (eI .i64) A37 c38 t32, own 23 (eI .u32) A24 c25 t20] → rivetlaw08_ChainEmpty.j3 v181 = some r → K158 a w := by
      intro v181 a w hs hw H
      unfold rivetlaw08_ChainEmpty.j3 at H
      refine hK158 _ _ ?_
      refine wp_ret ?_
      obtain rfl := Option.some.inj H
      refine ret1 (t := 4) (v := .bool v181) hs (by kernel_rfl) (by kernel_rfl) ?_
      exact ⟨rfl, hw.only 0⟩
    refine go_region ?_
    refine go_pvs 0 2 [6, 7, 8, 9, 10, 11, 12, 14, 18, 21, 24, 27, 30, 110] hs (L' := [(6, .slice A13 (l0.take (mnn (l0.length : Int) 30 : Int).toNat).length c14), (7, .slice A24 t20.length c25), (8, .int .i64 t21), (9, .int .i64 t22), (10, .slice A35 t31.length c36), (11, .slice A37 t32.length c38), (12, .int .i64 t33), (14, .bool v69), (18, .int .i64 t74), (21, .int .i64 t107), (24, .int .i64 t123), (27, .int .i64 t134), (30, .int .i64 t148), (110, .bool t4)]) (by kernel_rfl) ?_ rfl
    clear hs; intro a hs
    cases hb159 : t4
    · replace H := ite_f H (ff hb159)
      rw [hb159] at hs
      refine go_pvs 2 58 [4] hs (L' := [(4, .bool false)]) (by kernel_rfl) ?_ rfl
      clear hs; intro a hs
      refine go_end (by kernel_rfl) ?_
      replace hw := hw.up 13
      replace hw := hw.up 13
      replace hw := hw.up 13
      replace hw := hw.up 13
      replace hw := hw.up 13
      replace hw := hw.up 13
      replace hw := hw.up 13
      replace hw := hw.up 13
      replace hw := hw.up 13
      replace hw := hw.up 13
      replace hw := hw.up 13
      replace hw := hw.up 13
      replace hw := hw.up 13
      replace hw := hw.up 13
      replace hw := hw.only 14
      exact hJ3 false _ _ (hs.keep [4] (by kernel_rfl)) hw H
    · replace H := ite_t H hb159
      rw [hb159] at hs
      refine go_pvs 2 6 [6, 7, 8, 10, 11, 12, 14, 18, 21, 24, 27, 30, 114] hs (L' := [(6, .slice A13 (l0.take (mnn (l0.length : Int) 30 : Int).toNat).length c14), (7, .slice A24 t20.length c25), (8, .int .i64 t21), (10, .slice A35 t31.length c36), (11, .slice A37 t32.length c38), (12, .int .i64 t33), (14, .bool v69), (18, .int .i64 t74), (21, .int .i64 t107), (24, .int .i64 t123), (27, .int .i64 t134), (30, .int .i64 t148), (114, .bool (t22 == 0))]) (by kernel_rfl) ?_ rfl
      clear hs; intro a hs
      cases hb160 : (t22 == 0)
      · replace H := ite_f H (beq_eq_false_iff_ne.1 hb160)
        rw [hb160] at hs
        refine go_pvs 6 58 [4] hs (L' := [(4, .bool false)]) (by kernel_rfl) ?_ rfl
        clear hs; intro a hs
        refine go_end (by kernel_rfl) ?_
        replace hw := hw.up 13
        replace hw := hw.up 13
        replace hw := hw.up 13
        replace hw := hw.up 13
        replace hw := hw.up 13
        replace hw := hw.up 13
        replace hw := hw.up 13
        replace hw := hw.up 13
        replace hw := hw.up 13
        replace hw := hw.up 13
        replace hw := hw.up 13
        replace hw := hw.up 13
        replace hw := hw.up 13
        replace hw := hw.up 13
        replace hw := hw.only 14
        exact hJ3 false _ _ (hs.keep [4] (by kernel_rfl)) hw H
      · replace H := ite_t H (beq_iff_eq.1 hb160)
        rw [hb160] at hs
        refine go_pvs 6 10 [6, 7, 8, 10, 11, 14, 18, 21, 24, 27, 30, 118] hs (L' := [(6, .slice A13 (l0.take (mnn (l0.length : Int) 30 : Int).toNat).length c14), (7, .slice A24 t20.length c25), (8, .int .i64 t21), (10, .slice A35 t31.length c36), (11, .slice A37 t32.length c38), (14, .bool v69), (18, .int .i64 t74), (21, .int .i64 t107), (24, .int .i64 t123), (27, .int .i64 t134), (30, .int .i64 t148), (118, .bool (t33 == 0))]) (by kernel_rfl) ?_ rfl
        clear hs; intro a hs
        cases hb161 : (t33 == 0)
        · replace H := ite_f H (beq_eq_false_iff_ne.1 hb161)
          rw [hb161] at hs
          refine go_pvs 10 58 [4] hs (L' := [(4, .bool false)]) (by kernel_rfl) ?_ rfl
          clear hs; intro a hs
          refine go_end (by kernel_rfl) ?_
          replace hw := hw.up 13
          replace hw := hw.up 13
          replace hw := hw.up 13
          replace hw := hw.up 13
          replace hw := hw.up 13
          replace hw := hw.up 13
          replace hw := hw.up 13
          replace hw := hw.up 13
          replace hw := hw.up 13
          replace hw := hw.up 13
          replace hw := hw.up 13
          replace hw := hw.up 13
          replace hw := hw.up 13
          replace hw := hw.up 13
          replace hw := hw.only 14
          exact hJ3 false _ _ (hs.keep [4] (by kernel_rfl)) hw H
        · replace H := ite_t H (beq_iff_eq.1 hb161)
          rw [hb161] at hs
          refine go_pvs 10 14 [6, 7, 10, 11, 14, 18, 21, 24, 27, 30, 122] hs (L' := [(6, .slice A13 (l0.take (mnn (l0.length : Int) 30 : Int).toNat).length c14), (7, .slice A24 t20.length c25), (10, .slice A35 t31.length c36), (11, .slice A37 t32.length c38), (14, .bool v69), (18, .int .i64 t74), (21, .int .i64 t107), (24, .int .i64 t123), (27, .int .i64 t134), (30, .int .i64 t148), (122, .bool (t21 == 0))]) (by kernel_rfl) ?_ rfl
          clear hs; intro a hs
          cases hb162 : (t21 == 0)
          · replace H := ite_f H (beq_eq_false_iff_ne.1 hb162)
            rw [hb162] at hs
            refine go_pvs 14 58 [4] hs (L' := [(4, .bool false)]) (by kernel_rfl) ?_ rfl
            clear hs; intro a hs
            refine go_end (by kernel_rfl) ?_
            replace hw := hw.up 13
            replace hw := hw.up 13
            replace hw := hw.up 13
            replace hw := hw.up 13
            replace hw := hw.up 13
            replace hw := hw.up 13
            replace hw := hw.up 13
            replace hw := hw.up 13
            replace hw := hw.up 13
            replace hw := hw.up 13
            replace hw := hw.up 13
            replace hw := hw.up 13
            replace hw := hw.up 13
            replace hw := hw.up 13
            replace hw := hw.only 14
            exact hJ3 false _ _ (hs.keep [4] (by kernel_rfl)) hw H
          · replace H := ite_t H (beq_iff_eq.1 hb162)
            rw [hb162] at hs
            refine go_pvs 14 16 [6, 10, 11, 14, 18, 21, 24, 27, 30, 122, 123, 124] hs (L' := [(6, .slice A13 (l0.take (mnn (l0.length : Int) 30 : Int).toNat).length c14), (10, .slice A35 t31.length c36), (11, .slice A37 t32.length c38), (14, .bool v69), (18, .int .i64 t74), (21, .int .i64 t107), (24, .int .i64 t123), (27, .int .i64 t134), (30, .int .i64 t148), (122, .bool true), (123, .slice A24 t20.length c25), (124, .slice A13 (l0.take (mnn (l0.length : Int) 30 : Int).toNat).length c14)]) (by kernel_rfl) ?_ rfl
            clear hs; intro a hs
            obtain ⟨t164, hx165, H⟩ := bind_some H
            refine go_call hs (op := (Op.call { callee := (Callee.value (Operand.func 18)), args := #[(Operand.tmp 123), (Operand.tmp 124)], argTypes := #[22, 22] })) (ty := 4) (dst := some 125) (g := some (13, true)) (by kernel_rfl) (by kernel_rfl) (by kernel_rfl) (f := 18) (args := #[.slice A24 t20.length c25, .slice A13 (l0.take (mnn (l0.length : Int) 30 : Int).toNat).length c14]) (by kernel_rfl) (rivetref05_Same.calls A24 c25 t20 A13 c14 (l0.take (mnn (l0.length : Int) 30 : Int).toNat) t164 _ (Rd.of_own (hw.up 13)) (hc16 _ (hr0.old hw)) hx165) ?_
            rintro e wd166 ⟨rfl, hw167⟩
            refine ⟨_, rfl, ?_⟩
            replace hw := hw.call hw167
            intro a hs1
            replace hs : Slots a 166 [(6, .slice A13 (l0.take (mnn (l0.length : Int) 30 : Int).toNat).length c14), (10, .slice A35 t31.length c36), (11, .slice A37 t32.length c38), (14, .bool v69), (18, .int .i64 t74), (21, .int .i64 t107), (24, .int .i64 t123), (27, .int .i64 t134), (30, .int .i64 t148), (122, .bool true), (125, .bool t164)] := hs1.keep [6, 10, 11, 14, 18, 21, 24, 27, 30, 122, 125] (by kernel_rfl)
            clear hs1
            refine go_pvs 17 19 [6, 10, 11, 14, 18, 21, 24, 27, 30, 127] hs (L' := [(6, .slice A13 (l0.take (mnn (l0.length : Int) 30 : Int).toNat).length c14), (10, .slice A35 t31.length c36), (11, .slice A37 t32.length c38), (14, .bool v69), (18, .int .i64 t74), (21, .int .i64 t107), (24, .int .i64 t123), (27, .int .i64 t134), (30, .int .i64 t148), (127, .bool t164)]) (by kernel_rfl) ?_ rfl
            clear hs; intro a hs
            cases hb168 : t164
            · replace H := ite_f H (ff hb168)
              rw [hb168] at hs
              refine go_pvs 19 58 [4] hs (L' := [(4, .bool false)]) (by kernel_rfl) ?_ rfl
              clear hs; intro a hs
              refine go_end (by kernel_rfl) ?_
              replace hw := hw.up 13
              replace hw := hw.up 13
              replace hw := hw.up 13
              replace hw := hw.up 13
              replace hw := hw.up 13
              replace hw := hw.up 13
              replace hw := hw.up 13
              replace hw := hw.up 13
              replace hw := hw.up 13
              replace hw := hw.up 13
              replace hw := hw.up 13
              replace hw := hw.up 13
              replace hw := hw.up 13
              replace hw := hw.up 13
              replace hw := hw.only 14
              exact hJ3 false _ _ (hs.keep [4] (by kernel_rfl)) hw H
            · replace H := ite_t H hb168
              rw [hb168] at hs
              refine go_pvs 19 21 [11, 14, 18, 21, 24, 27, 30, 127, 128, 129] hs (L' := [(11, .slice A37 t32.length c38), (14, .bool v69), (18, .int .i64 t74), (21, .int .i64 t107), (24, .int .i64 t123), (27, .int .i64 t134), (30, .int .i64 t148), (127, .bool true), (128, .slice A35 t31.length c36), (129, .slice A13 (l0.take (mnn (l0.length : Int) 30 : Int).toNat).length c14)]) (by kernel_rfl) ?_ rfl
              clear hs; intro a hs
              obtain ⟨t170, hx171, H⟩ := bind_some H
              refine go_call hs (op := (Op.call { callee := (Callee.value (Operand.func 18)), args := #[(Operand.tmp 128), (Operand.tmp 129)], argTypes := #[22, 22] })) (ty := 4) (dst := some 130) (g := some (18, true)) (by kernel_rfl) (by kernel_rfl) (by kernel_rfl) (f := 18) (args := #[.slice A35 t31.length c36, .slice A13 (l0.take (mnn (l0.length : Int) 30 : Int).toNat).length c14]) (by kernel_rfl) (rivetref05_Same.calls A35 c36 t31 A13 c14 (l0.take (mnn (l0.length : Int) 30 : Int).toNat) t170 _ (Rd.of_own (hw.up 11)) (hc16 _ (hr0.old hw)) hx171) ?_
              rintro e wd172 ⟨rfl, hw173⟩
              refine ⟨_, rfl, ?_⟩
              replace hw := hw.call hw173
              intro a hs1
              replace hs : Slots a 166 [(11, .slice A37 t32.length c38), (14, .bool v69), (18, .int .i64 t74), (21, .int .i64 t107), (24, .int .i64 t123), (27, .int .i64 t134), (30, .int .i64 t148), (127, .bool true), (130, .bool t170)] := hs1.keep [11, 14, 18, 21, 24, 27, 30, 127, 130] (by kernel_rfl)
              clear hs1
              refine go_pvs 22 24 [11, 14, 18, 21, 24, 27, 30, 132] hs (L' := [(11, .slice A37 t32.length c38), (14, .bool v69), (18, .int .i64 t74), (21, .int .i64 t107), (24, .int .i64 t123), (27, .int .i64 t134), (30, .int .i64 t148), (132, .bool t170)]) (by kernel_rfl) ?_ rfl
              clear hs; intro a hs
              cases hb174 : t170
              · replace H := ite_f H (ff hb174)
                rw [hb174] at hs
                refine go_pvs 24 58 [4] hs (L' := [(4, .bool false)]) (by kernel_rfl) ?_ rfl
                clear hs; intro a hs
                refine go_end (by kernel_rfl) ?_
                replace hw := hw.up 13
                replace hw := hw.up 13
                replace hw := hw.up 13
                replace hw := hw.up 13
                replace hw := hw.up 13
                replace hw := hw.up 13
                replace hw := hw.up 13
                replace hw := hw.up 13
                replace hw := hw.up 13
                replace hw := hw.up 13
                replace hw := hw.up 13
                replace hw := hw.up 13
                replace hw := hw.up 13
                replace hw := hw.up 13
                replace hw := hw.only 14
                exact hJ3 false _ _ (hs.keep [4] (by kernel_rfl)) hw H
              · replace H := ite_t H hb174
                rw [hb174] at hs
                refine go_pvs 24 29 [14, 18, 21, 24, 27, 30, 137] hs (L' := [(14, .bool v69), (18, .int .i64 t74), (21, .int .i64 t107), (24, .int .i64 t123), (27, .int .i64 t134), (30, .int .i64 t148), (137, .bool ((t32.length : Int) == 0))]) (by kernel_rfl) ?_ rfl
                clear hs; intro a hs
                cases hb175 : ((t32.length : Int) == 0)
                · replace H := ite_f H (beq_eq_false_iff_ne.1 hb175)
                  rw [hb175] at hs
                  refine go_pvs 29 58 [4] hs (L' := [(4, .bool false)]) (by kernel_rfl) ?_ rfl
                  clear hs; intro a hs
                  refine go_end (by kernel_rfl) ?_
                  replace hw := hw.up 13
                  replace hw := hw.up 13
                  replace hw := hw.up 13
                  replace hw := hw.up 13
                  replace hw := hw.up 13
                  replace hw := hw.up 13
                  replace hw := hw.up 13
                  replace hw := hw.up 13
                  replace hw := hw.up 13
                  replace hw := hw.up 13
                  replace hw := hw.up 13
                  replace hw := hw.up 13
                  replace hw := hw.up 13
                  replace hw := hw.up 13
                  replace hw := hw.only 14
                  exact hJ3 false _ _ (hs.keep [4] (by kernel_rfl)) hw H
                · replace H := ite_t H (beq_iff_eq.1 hb175)
                  rw [hb175] at hs
                  refine go_pvs 29 35 [14, 18, 21, 24, 27, 30, 143] hs (L' := [(14, .bool v69), (18, .int .i64 t74), (21, .int .i64 t107), (24, .int .i64 t123), (27, .int .i64 t134), (30, .int .i64 t148), (143, .bool ((t74 == 8) == v69))]) (by kernel_rfl) ?_ rfl
                  clear hs; intro a hs
                  cases hb176 : ((t74 == 8) == v69)
                  · replace H := ite_f H (ff hb176)
                    rw [hb176] at hs
                    refine go_pvs 35 58 [4] hs (L' := [(4, .bool false)]) (by kernel_rfl) ?_ rfl
                    clear hs; intro a hs
                    refine go_end (by kernel_rfl) ?_
                    replace hw := hw.up 13
                    replace hw := hw.up 13
                    replace hw := hw.up 13
                    replace hw := hw.up 13
                    replace hw := hw.up 13
                    replace hw := hw.up 13
                    replace hw := hw.up 13
                    replace hw := hw.up 13
                    replace hw := hw.up 13
                    replace hw := hw.up 13
                    replace hw := hw.up 13
                    replace hw := hw.up 13
                    replace hw := hw.up 13
                    replace hw := hw.up 13
                    replace hw := hw.only 14
                    exact hJ3 false _ _ (hs.keep [4] (by kernel_rfl)) hw H
                  · replace H := ite_t H hb176
                    rw [hb176] at hs
                    refine go_pvs 35 42 [21, 24, 27, 30, 150] hs (L' := [(21, .int .i64 t107), (24, .int .i64 t123), (27, .int .i64 t134), (30, .int .i64 t148), (150, .bool ((t74 == 0) == (!v69)))]) (by kernel_rfl) ?_ rfl
                    clear hs; intro a hs
                    cases hb177 : ((t74 == 0) == (!v69))
                    · replace H := ite_f H (ff hb177)
                      rw [hb177] at hs
                      refine go_pvs 42 58 [4] hs (L' := [(4, .bool false)]) (by kernel_rfl) ?_ rfl
                      clear hs; intro a hs
                      refine go_end (by kernel_rfl) ?_
                      replace hw := hw.up 13
                      replace hw := hw.up 13
                      replace hw := hw.up 13
                      replace hw := hw.up 13
                      replace hw := hw.up 13
                      replace hw := hw.up 13
                      replace hw := hw.up 13
                      replace hw := hw.up 13
                      replace hw := hw.up 13
                      replace hw := hw.up 13
                      replace hw := hw.up 13
                      replace hw := hw.up 13
                      replace hw := hw.up 13
                      replace hw := hw.up 13
                      replace hw := hw.only 14
                      exact hJ3 false _ _ (hs.keep [4] (by kernel_rfl)) hw H
                    · replace H := ite_t H hb177
                      rw [hb177] at hs
                      refine go_pvs 42 46 [24, 27, 30, 154] hs (L' := [(24, .int .i64 t123), (27, .int .i64 t134), (30, .int .i64 t148), (154, .bool (t107 == 7))]) (by kernel_rfl) ?_ rfl
                      clear hs; intro a hs
                      cases hb178 : (t107 == 7)
                      · replace H := ite_f H (beq_eq_false_iff_ne.1 hb178)
                        rw [hb178] at hs
                        refine go_pvs 46 58 [4] hs (L' := [(4, .bool false)]) (by kernel_rfl) ?_ rfl
                        clear hs; intro a hs
                        refine go_end (by kernel_rfl) ?_
                        replace hw := hw.up 13
                        replace hw := hw.up 13
                        replace hw := hw.up 13
                        replace hw := hw.up 13
                        replace hw := hw.up 13
                        replace hw := hw.up 13
                        replace hw := hw.up 13
                        replace hw := hw.up 13
                        replace hw := hw.up 13
                        replace hw := hw.up 13
                        replace hw := hw.up 13
                        replace hw := hw.up 13
                        replace hw := hw.up 13
                        replace hw := hw.up 13
                        replace hw := hw.only 14
                        exact hJ3 false _ _ (hs.keep [4] (by kernel_rfl)) hw H
                      · replace H := ite_t H (beq_iff_eq.1 hb178)
                        rw [hb178] at hs
                        refine go_pvs 46 50 [27, 30, 158] hs (L' := [(27, .int .i64 t134), (30, .int .i64 t148), (158, .bool (t123 == 7))]) (by kernel_rfl) ?_ rfl
                        clear hs; intro a hs
                        cases hb179 : (t123 == 7)
                        · replace H := ite_f H (beq_eq_false_iff_ne.1 hb179)
                          rw [hb179] at hs
                          refine go_pvs 50 58 [4] hs (L' := [(4, .bool false)]) (by kernel_rfl) ?_ rfl
                          clear hs; intro a hs
                          refine go_end (by kernel_rfl) ?_
                          replace hw := hw.up 13
                          replace hw := hw.up 13
                          replace hw := hw.up 13
                          replace hw := hw.up 13
                          replace hw := hw.up 13
                          replace hw := hw.up 13
                          replace hw := hw.up 13
                          replace hw := hw.up 13
                          replace hw := hw.up 13
                          replace hw := hw.up 13
                          replace hw := hw.up 13
                          replace hw := hw.up 13
                          replace hw := hw.up 13
                          replace hw := hw.up 13
                          replace hw := hw.only 14
                          exact hJ3 false _ _ (hs.keep [4] (by kernel_rfl)) hw H
                        · replace H := ite_t H (beq_iff_eq.1 hb179)
                          rw [hb179] at hs
                          refine go_pvs 50 54 [30, 162] hs (L' := [(30, .int .i64 t148), (162, .bool (t134 == 10))]) (by kernel_rfl) ?_ rfl
                          clear hs; intro a hs
                          cases hb180 : (t134 == 10)
                          · replace H := ite_f H (beq_eq_false_iff_ne.1 hb180)
                            rw [hb180] at hs
                            refine go_pvs 54 58 [4] hs (L' := [(4, .bool false)]) (by kernel_rfl) ?_ rfl
                            clear hs; intro a hs
                            refine go_end (by kernel_rfl) ?_
                            replace hw := hw.up 13
                            replace hw := hw.up 13
                            replace hw := hw.up 13
                            replace hw := hw.up 13
                            replace hw := hw.up 13
                            replace hw := hw.up 13
                            replace hw := hw.up 13
                            replace hw := hw.up 13
                            replace hw := hw.up 13
                            replace hw := hw.up 13
                            replace hw := hw.up 13
                            replace hw := hw.up 13
                            replace hw := hw.up 13
                            replace hw := hw.up 13
                            replace hw := hw.only 14
                            exact hJ3 false _ _ (hs.keep [4] (by kernel_rfl)) hw H
                          · replace H := ite_t H (beq_iff_eq.1 hb180)
                            rw [hb180] at hs
                            refine go_pvs 54 58 [4] hs (L' := [(4, .bool (t148 == 10))]) (by kernel_rfl) ?_ rfl
                            clear hs; intro a hs
                            refine go_end (by kernel_rfl) ?_
                            replace hw := hw.up 13
                            replace hw := hw.up 13
                            replace hw := hw.up 13
                            replace hw := hw.up 13
                            replace hw := hw.up 13
                            replace hw := hw.up 13
                            replace hw := hw.up 13
                            replace hw := hw.up 13
                            replace hw := hw.up 13
                            replace hw := hw.up 13
                            replace hw := hw.up 13
                            replace hw := hw.up 13
                            replace hw := hw.up 13
                            replace hw := hw.up 13
                            replace hw := hw.only 14
                            exact hJ3 (t148 == 10) _ _ (hs.keep [4] (by kernel_rfl)) hw H
  clear H
  refine go_loop (σ := Bool × Int) (fun σ a w => Slots a 166 [(5, .bool t4), (6, .slice A13 (l0.take (mnn (l0.length : Int) 30 : Int).toNat).length c14), (7, .slice A24 t20.length c25), (8, .int .i64 t21), (9, .int .i64 t22), (10, .slice A35 t31.length c36), (11, .slice A37 t32.length c38), (12, .int .i64 t33), (13, .slice A47 t45.length c48), (14, .bool σ.1), (15, .int .i64 σ.2)] ∧ St [] w0 w [own 3 (eI .i64) A47 c48 t45, own 23 (eI .u32) A35 c36 t31, own 3 (eI .i64) A37 c38 t32, own 23 (eI .u32) A24 c25 t20]) hl55 (by exact ⟨hs.keep [5, 6, 7, 8, 9, 10, 11, 12, 13, 14, 15] (by kernel_rfl), hw⟩) ?_
  rintro ⟨v56, v57⟩ a w ⟨hs, hw⟩ o H hr55
  replace hs : Slots a 166 [(5, .bool t4), (6, .slice A13 (l0.take (mnn (l0.length : Int) 30 : Int).toNat).length c14), (7, .slice A24 t20.length c25), (8, .int .i64 t21), (9, .int .i64 t22), (10, .slice A35 t31.length c36), (11, .slice A37 t32.length c38), (12, .int .i64 t33), (13, .slice A47 t45.length c48), (14, .bool v56), (15, .int .i64 v57)] := hs
  replace hw : St [] w0 w [own 3 (eI .i64) A47 c48 t45, own 23 (eI .u32) A35 c36 t31, own 3 (eI .i64) A37 c38 t32, own 23 (eI .u32) A24 c25 t20] := hw
  replace H : rivetlaw08_ChainEmpty.b55 t45 l0 v56 v57 = some o := H
  unfold rivetlaw08_ChainEmpty.b55 at H
  refine go_seq_k fun K58 hK58 => ?_
  refine go_seq_k fun K59 hK59 => ?_
  refine go_region ?_
  refine go_pvs 0 4 [5, 6, 7, 8, 9, 10, 11, 12, 13, 14, 15, 53] hs (L' := [(5, .bool t4), (6, .slice A13 (l0.take (mnn (l0.length : Int) 30 : Int).toNat).length c14), (7, .slice A24 t20.length c25), (8, .int .i64 t21), (9, .int .i64 t22), (10, .slice A35 t31.length c36), (11, .slice A37 t32.length c38), (12, .int .i64 t33), (13, .slice A47 t45.length c48), (14, .bool v56), (15, .int .i64 v57), (53, .bool (decide (v57 < (t45.length : Int))))]) (by kernel_rfl) ?_ rfl
  clear hs; intro a hs
  refine go_end (by kernel_rfl) ?_
  refine hK59 _ _ ?_
  refine go_cond hs (decide (v57 < (t45.length : Int))) (by kernel_rfl) (fun hc => ?_) (fun hc => ?_)
  · replace H := ite_t H (of_decide_eq_true hc)
    have hb60 := hc
    rw [hb60] at hs
    refine wp_skip ?_
    refine hK58 _ _ ?_
    refine go_seq_k fun K61 hK61 => ?_
    have hJ1 : ∀ (v67 : Bool) (a : Act) (w : World), Slots a 166 [(5, .bool t4), (6, .slice A13 (l0.take (mnn (l0.length : Int) 30 : Int).toNat).length c14), (7, .slice A24 t20.length c25), (8, .int .i64 t21), (9, .int .i64 t22), (10, .slice A35 t31.length c36), (11, .slice A37 t32.length c38), (12, .int .i64 t33), (13, .slice A47 t45.length c48), (14, .bool v67), (15, .int .i64 v57)] → St [] w0 w [own 3 (eI .i64) A47 c48 t45, own 23 (eI .u32) A35 c36 t31, own 3 (eI .i64) A37 c38 t32, own 23 (eI .u32) A24 c25 t20] → rivetlaw08_ChainEmpty.j1 v57 v67 = some o → K61 a w := by
      intro v67 a w hs hw H
      unfold rivetlaw08_ChainEmpty.j1 at H
      refine hK61 _ _ ?_
      refine go_region ?_
      refine go_pvs 0 3 [5, 6, 7, 8, 9, 10, 11, 12, 13, 14, 15] hs (L' := [(5, .bool t4), (6, .slice A13 (l0.take (mnn (l0.length : Int) 30 : Int).toNat).length c14), (7, .slice A24 t20.length c25), (8, .int .i64 t21), (9, .int .i64 t22), (10, .slice A35 t31.length c36), (11, .slice A37 t32.length c38), (12, .int .i64 t33), (13, .slice A47 t45.length c48), (14, .bool v67), (15, .int .i64 (w64 (v57 + 1)))]) (by kernel_rfl) ?_ rfl
      clear hs; intro a hs
      refine go_end (by kernel_rfl) ?_
      replace hw := hw.up 3
      replace hw := hw.up 3
      replace hw := hw.up 3
      replace hw := hw.up 3
      replace hw := hw.only 4
      exact round_end (v67, w64 (v57 + 1)) (Option.some.inj H).symm ⟨hs.keep [5, 6, 7, 8, 9, 10, 11, 12, 13, 14, 15] (by kernel_rfl), hw⟩
    refine wp_block ?_
    refine go_region ?_
    refine go_pvs 0 2 [5, 6, 7, 8, 9, 10, 11, 12, 13, 15, 57] hs (L' := [(5, .bool t4), (6, .slice A13 (l0.take (mnn (l0.length : Int) 30 : Int).toNat).length c14), (7, .slice A24 t20.length c25), (8, .int .i64 t21), (9, .int .i64 t22), (10, .slice A35 t31.length c36), (11, .slice A37 t32.length c38), (12, .int .i64 t33), (13, .slice A47 t45.length c48), (15, .int .i64 v57), (57, .bool v56)]) (by kernel_rfl) ?_ rfl
    clear hs; intro a hs
    cases hb62 : v56
    · replace H := ite_f H (ff hb62)
      rw [hb62] at hs
      refine go_pvs 2 5 [5, 6, 7, 8, 9, 10, 11, 12, 13, 15, 57, 58, 59, 60] hs (L' := [(5, .bool t4), (6, .slice A13 (l0.take (mnn (l0.length : Int) 30 : Int).toNat).length c14), (7, .slice A24 t20.length c25), (8, .int .i64 t21), (9, .int .i64 t22), (10, .slice A35 t31.length c36), (11, .slice A37 t32.length c38), (12, .int .i64 t33), (13, .slice A47 t45.length c48), (15, .int .i64 v57), (57, .bool false), (58, .slice A13 (l0.take (mnn (l0.length : Int) 30 : Int).toNat).length c14), (59, .slice A47 t45.length c48), (60, .int .i64 v57)]) (by kernel_rfl) ?_ rfl
      clear hs; intro a hs
      obtain ⟨hp63, H⟩ := ite_only H
      obtain ⟨ad64, rfl⟩ := (Rd.of_own (hw.up 0)).some hp63.1 hp63.2
      refine go_run hs (op := (Op.indexAddr 35 (Operand.tmp 59) (Operand.tmp 60))) (ty := 0) (dst := some 61) (g := some (1, false)) (by kernel_rfl) (by kernel_rfl) (by kernel_rfl) (x_idx (T := 3) (sz := 1) (a := ad64) (n := t45.length) (cap := c48) (k := .i64) (i := v57) (by kernel_rfl) (by kernel_rfl) (by kernel_rfl) (by kernel_rfl) hp63.1 hp63.2) [5, 6, 7, 8, 9, 10, 11, 12, 13, 15, 57, 58, 61] (L' := [(5, .bool t4), (6, .slice A13 (l0.take (mnn (l0.length : Int) 30 : Int).toNat).length c14), (7, .slice A24 t20.length c25), (8, .int .i64 t21), (9, .int .i64 t22), (10, .slice A35 t31.length c36), (11, .slice A37 t32.length c38), (12, .int .i64 t33), (13, .slice (some ad64) t45.length c48), (15, .int .i64 v57), (57, .bool false), (58, .slice A13 (l0.take (mnn (l0.length : Int) 30 : Int).toNat).length c14), (61, .pointer (some (ad64.add (v57.toNat * 1))))]) (by kernel_rfl) ?_
      clear hs; intro a hs
      refine go_run hs (op := (Op.load 3 (Operand.tmp 61))) (ty := 3) (dst := some 62) (g := some (1, false)) (by kernel_rfl) (by kernel_rfl) (by kernel_rfl) (x_ld (E := (eI .i64)) (off := 0) (p := ad64.add (v57.toNat * 1)) (v := .int .i64 (ix (eI .i64).d t45 v57)) (Rd.of_own (hw.up 0)) hp63.1 hp63.2 (by kernel_rfl) rfl (by kernel_rfl) (by kernel_rfl)) [5, 6, 7, 8, 9, 10, 11, 12, 13, 15, 57, 58, 62] (L' := [(5, .bool t4), (6, .slice A13 (l0.take (mnn (l0.length : Int) 30 : Int).toNat).length c14), (7, .slice A24 t20.length c25), (8, .int .i64 t21), (9, .int .i64 t22), (10, .slice A35 t31.length c36), (11, .slice A37 t32.length c38), (12, .int .i64 t33), (13, .slice (some ad64) t45.length c48), (15, .int .i64 v57), (57, .bool false), (58, .slice A13 (l0.take (mnn (l0.length : Int) 30 : Int).toNat).length c14), (62, .int .i64 (ix (eI .i64).d t45 v57))]) (by kernel_rfl) ?_
      clear hs; intro a hs
      obtain ⟨hp65, H⟩ := ite_only H
      obtain ⟨ad66, rfl⟩ := (hc16 _ (hr0.old hw)).some hp65.1 hp65.2
      refine go_run hs (op := (Op.indexAddr 22 (Operand.tmp 58) (Operand.tmp 62))) (ty := 0) (dst := some 63) (g := some (1, false)) (by kernel_rfl) (by kernel_rfl) (by kernel_rfl) (x_idx (T := 23) (sz := 1) (a := ad66) (n := (l0.take (mnn (l0.length : Int) 30 : Int).toNat).length) (cap := c14) (k := .i64) (i := (ix (eI .i64).d t45 v57)) (by kernel_rfl) (by kernel_rfl) (by kernel_rfl) (by kernel_rfl) hp65.1 hp65.2) [5, 6, 7, 8, 9, 10, 11, 12, 13, 15, 57, 63] (L' := [(5, .bool t4), (6, .slice (some ad66) (l0.take (mnn (l0.length : Int) 30 : Int).toNat).length c14), (7, .slice A24 t20.length c25), (8, .int .i64 t21), (9, .int .i64 t22), (10, .slice A35 t31.length c36), (11, .slice A37 t32.length c38), (12, .int .i64 t33), (13, .slice (some ad64) t45.length c48), (15, .int .i64 v57), (57, .bool false), (63, .pointer (some (ad66.add ((ix (eI .i64).d t45 v57).toNat * 1))))]) (by kernel_rfl) ?_
      clear hs; intro a hs
      refine go_run hs (op := (Op.load 23 (Operand.tmp 63))) (ty := 23) (dst := some 64) (g := some (1, false)) (by kernel_rfl) (by kernel_rfl) (by kernel_rfl) (x_ld (E := (eI .u32)) (off := 0) (p := ad66.add ((ix (eI .i64).d t45 v57).toNat * 1)) (v := .int .u32 (ix (eI .u32).d (l0.take (mnn (l0.length : Int) 30 : Int).toNat) (ix (eI .i64).d t45 v57))) (hc16 _ (hr0.old hw)) hp65.1 hp65.2 (by kernel_rfl) rfl (by kernel_rfl) (by kernel_rfl)) [5, 6, 7, 8, 9, 10, 11, 12, 13, 15, 57, 64] (L' := [(5, .bool t4), (6, .slice (some ad66) (l0.take (mnn (l0.length : Int) 30 : Int).toNat).length c14), (7, .slice A24 t20.length c25), (8, .int .i64 t21), (9, .int .i64 t22), (10, .slice A35 t31.length c36), (11, .slice A37 t32.length c38), (12, .int .i64 t33), (13, .slice (some ad64) t45.length c48), (15, .int .i64 v57), (57, .bool false), (64, .int .u32 (ix (eI .u32).d (l0.take (mnn (l0.length : Int) 30 : Int).toNat) (ix (eI .i64).d t45 v57)))]) (by kernel_rfl) ?_
      clear hs; intro a hs
      refine go_pvs 9 12 [5, 6, 7, 8, 9, 10, 11, 12, 13, 14, 15] hs (L' := [(5, .bool t4), (6, .slice (some ad66) (l0.take (mnn (l0.length : Int) 30 : Int).toNat).length c14), (7, .slice A24 t20.length c25), (8, .int .i64 t21), (9, .int .i64 t22), (10, .slice A35 t31.length c36), (11, .slice A37 t32.length c38), (12, .int .i64 t33), (13, .slice (some ad64) t45.length c48), (14, .bool (decide ((ix (eI .u32).d (l0.take (mnn (l0.length : Int) 30 : Int).toNat) (ix (eI .i64).d t45 v57)) > 65535))), (15, .int .i64 v57)]) (by kernel_rfl) ?_ rfl
      clear hs; intro a hs
      refine go_end (by kernel_rfl) ?_
      refine ib_norm ?_
      replace hw := hw.up 3
      replace hw := hw.up 3
      replace hw := hw.up 3
      replace hw := hw.up 3
      replace hw := hw.only 4
      exact hJ1 (decide ((ix (eI .u32).d (l0.take (mnn (l0.length : Int) 30 : Int).toNat) (ix (eI .i64).d t45 v57)) > 65535)) _ _ (hs.keep [5, 6, 7, 8, 9, 10, 11, 12, 13, 14, 15] (by kernel_rfl)) hw H
    · replace H := ite_t H hb62
      rw [hb62] at hs
      refine go_pvs 2 12 [5, 6, 7, 8, 9, 10, 11, 12, 13, 14, 15] hs (L' := [(5, .bool t4), (6, .slice A13 (l0.take (mnn (l0.length : Int) 30 : Int).toNat).length c14), (7, .slice A24 t20.length c25), (8, .int .i64 t21), (9, .int .i64 t22), (10, .slice A35 t31.length c36), (11, .slice A37 t32.length c38), (12, .int .i64 t33), (13, .slice A47 t45.length c48), (14, .bool true), (15, .int .i64 v57)]) (by kernel_rfl) ?_ rfl
      clear hs; intro a hs
      refine go_end (by kernel_rfl) ?_
      refine ib_norm ?_
      replace hw := hw.up 3
      replace hw := hw.up 3
      replace hw := hw.up 3
      replace hw := hw.up 3
      replace hw := hw.only 4
      exact hJ1 true _ _ (hs.keep [5, 6, 7, 8, 9, 10, 11, 12, 13, 14, 15] (by kernel_rfl)) hw H
  · replace H := ite_f H (of_decide_eq_false hc)
    have hb68 := hc
    rw [hb68] at hs
    refine wp_exit ?_
    refine th_exit ?_
    refine th_exit ?_
    refine in_block ?_
    replace hw := hw.up 3
    replace hw := hw.up 3
    replace hw := hw.up 3
    replace hw := hw.up 3
    replace hw := hw.only 4
    rw [← hr55 _ (Option.some.inj H).symm] at HX55
    exact hJ2 v56 _ _ (hs.keep [5, 6, 7, 8, 9, 10, 11, 12, 13, 14] (by kernel_rfl)) hw HX55

end Go.Proofs.Ytpbfjcpndmmgoaa.T08
