/- YtpbfjcpndmmgoaaT08o: Go functions told as plain ones, each with a proof that its call comes to what is told, part 1. Condition of each: that the plain function comes to a value. -/
import Derived.Test.YtpbfjcpndmmgoaaT08
import Derived.Test.YtpbfjcpndmmgoaaEA
import Derived.Test.YtpbfjcpndmmgoaaEA
import Derived.Test.YtpbfjcpndmmgoaaProg
namespace Go.Proofs.Ytpbfjcpndmmgoaa.T08
open Go Go.RowKit Go.Proofs.Ytpbfjcpndmmgoaa.E
set_option linter.unusedVariables false
set_option linter.unusedSimpArgs false
def eA47 : Enc (Vector Int 2) := ⟨2, fun x => [.int .u8 (vx 0 x 0), .int .u8 (vx 0 x 1)], (Vector.replicate 2 0), by decide, fun _ => rfl, fun x u hu => by simp at hu; rcases hu with rfl | rfl <;> rfl⟩
def eA49 : Enc (Vector Int 2) := ⟨2, fun x => [.int .u16 (vx 0 x 0), .int .u16 (vx 0 x 1)], (Vector.replicate 2 0), by decide, fun _ => rfl, fun x u hu => by simp at hu; rcases hu with rfl | rfl <;> rfl⟩
/-! rivet/rivetlaw08.ChainOne: function 9 -/
noncomputable def rivetlaw08_ChainOne.j3 (v111 : Bool) : Option Bool := some v111
noncomputable def rivetlaw08_ChainOne.j4 (v155 : Bool) : Option Bool := some v155
noncomputable def rivetlaw08_ChainOne.j2 (y20 : Int) (y23 : Int) (t49 : List Int) (y17 : Int) (a2 : Vector Int 2) : Option Bool := (if 0 ≤ (mxx y20 y23) ∧ (mxx y20 y23) < (t49.length : Int) then (if 0 ≤ (mxx y20 y23) ∧ (mxx y20 y23) < (t49.length : Int) then ((chain_Unpack (t49.set ((mxx y20 y23) : Int).toNat (bor .u32 (ix (eI .u32).d t49 (mxx y20 y23)) (wu32 (w64 ((mxx y20 y23) + 1))))) (w64 ((mxx y20 y23) + 1))).bind fun ⟨t78, t79, t80⟩ => ((if (mnn y20 y23) = (mxx y20 y23) then ((chain_Pack (((List.replicate (y17 : Int).toNat (eI .u32).d).set ((mnn y20 y23) : Int).toNat (wu32 (vx 0 a2 0))).set ((mxx y20 y23) : Int).toNat (wu32 (vx 0 a2 1))) ([mxx y20 y23, mnn y20 y23] : List Int)).bind fun ⟨t100, t101, t102⟩ => ((if t80 = 10 then rivetlaw08_ChainOne.j3 (t102 == 7) else rivetlaw08_ChainOne.j3 false))) else ((chain_Pack (((List.replicate (y17 : Int).toNat (eI .u32).d).set ((mnn y20 y23) : Int).toNat (wu32 (vx 0 a2 0))).set ((mxx y20 y23) : Int).toNat (wu32 (vx 0 a2 1))) ([mnn y20 y23, mxx y20 y23] : List Int)).bind fun ⟨t120, t121, t122⟩ => (((chain_Pack (((List.replicate (y17 : Int).toNat (eI .u32).d).set ((mnn y20 y23) : Int).toNat (wu32 (vx 0 a2 0))).set ((mxx y20 y23) : Int).toNat (wu32 (vx 0 a2 1))) ([mxx y20 y23, mnn y20 y23] : List Int)).bind fun ⟨t136, t137, t138⟩ => ((if t80 = 10 then (if t122 = 0 then (if t121 = (w64 ((mxx y20 y23) + 1)) then (if (t120.length : Int) = y17 then (if 0 ≤ (mxx y20 y23) ∧ (mxx y20 y23) < (t120.length : Int) then (if (ix (eI .u32).d t120 (mxx y20 y23)) = (bor .u32 (wu32 ((wu32 (vx 0 a2 1)) * 2 ^ 16)) (wu32 (w64 ((mnn y20 y23) + 1)))) then (if 0 ≤ (mnn y20 y23) ∧ (mnn y20 y23) < (t120.length : Int) then (if (ix (eI .u32).d t120 (mnn y20 y23)) = (wu32 ((wu32 (vx 0 a2 0)) * 2 ^ 16)) then rivetlaw08_ChainOne.j4 (t138 == 7) else rivetlaw08_ChainOne.j4 false) else none) else rivetlaw08_ChainOne.j4 false) else none) else rivetlaw08_ChainOne.j4 false) else rivetlaw08_ChainOne.j4 false) else rivetlaw08_ChainOne.j4 false) else rivetlaw08_ChainOne.j4 false)))))))) else none) else none)
noncomputable def rivetlaw08_ChainOne.j1 (y20 : Int) (y23 : Int) (t49 : List Int) (y17 : Int) (a2 : Vector Int 2) (v66 : Bool) : Option Bool := (if v66 = true then some false else rivetlaw08_ChainOne.j2 y20 y23 t49 y17 a2)
noncomputable def rivetlaw08_ChainOne (a0 : Int) (a1 : Vector Int 2) (a2 : Vector Int 2) : Option Bool := ((rivetlaw08_shown).bind fun t12 => ((nm (w64 (2 + (w64 (a0.tmod 32)))) fun y17 => (if y17 ≠ 0 then (nm ((w64 (vx 0 a1 0)).tmod y17) fun y20 => (if y17 ≠ 0 then (nm ((w64 (vx 0 a1 1)).tmod y17) fun y23 => (if 0 ≤ y17 ∧ y17 ≤ 70368744177664 then (if 0 ≤ (mnn y20 y23) ∧ (mnn y20 y23) < ((List.replicate (y17 : Int).toNat (eI .u32).d).length : Int) then (if 0 ≤ (mxx y20 y23) ∧ (mxx y20 y23) < (((List.replicate (y17 : Int).toNat (eI .u32).d).set ((mnn y20 y23) : Int).toNat (wu32 (vx 0 a2 0))).length : Int) then ((chain_Pack (((List.replicate (y17 : Int).toNat (eI .u32).d).set ((mnn y20 y23) : Int).toNat (wu32 (vx 0 a2 0))).set ((mxx y20 y23) : Int).toNat (wu32 (vx 0 a2 1))) ([mxx y20 y23] : List Int)).bind fun ⟨t49, t50, t51⟩ => ((if t12 = true then (if t51 = 0 then (if t50 = (w64 ((mxx y20 y23) + 1)) then (if (t49.length : Int) = y17 then (if 0 ≤ (mxx y20 y23) ∧ (mxx y20 y23) < (t49.length : Int) then rivetlaw08_ChainOne.j1 y20 y23 t49 y17 a2 ((ix (eI .u32).d t49 (mxx y20 y23)) != (wu32 ((wu32 (vx 0 a2 1)) * 2 ^ 16))) else none) else rivetlaw08_ChainOne.j1 y20 y23 t49 y17 a2 true) else rivetlaw08_ChainOne.j1 y20 y23 t49 y17 a2 true) else rivetlaw08_ChainOne.j1 y20 y23 t49 y17 a2 true) else rivetlaw08_ChainOne.j1 y20 y23 t49 y17 a2 true))) else none) else none) else none)) else none)) else none))))
set_option maxRecDepth 100000 in
set_option maxHeartbeats 4000000 in
theorem rivetlaw08_ChainOne.calls (a0 : Int) (a1 : Vector Int 2) (a2 : Vector Int 2) (r : Bool) (w0 : World) (H : rivetlaw08_ChainOne a0 a1 a2 = some r) :
    Calls Try.prog 9 #[.int .u8 a0, .agg #[.int .u8 (vx 0 a1 0), .int .u8 (vx 0 a1 1)], .agg #[.int .u16 (vx 0 a2 0), .int .u16 (vx 0 a2 1)]] w0 fun e w' => e = .returned (.bool r) ∧ St [] w0 w' [] := by
  have hw : St [] w0 w0 [] := St.nil w0
  unfold rivetlaw08_ChainOne at H
  refine go_fn Try.func9 rfl 204 Try.ntmps9 [(0, .int .u8 a0), (1, .agg #[.int .u8 (vx 0 a1 0), .int .u8 (vx 0 a1 1)]), (2, .agg #[.int .u16 (vx 0 a2 0), .int .u16 (vx 0 a2 1)])] (by kernel_rfl) rfl ?_
  intro a hs
  refine go_seq_k fun K1 hK1 => ?_
  refine go_region ?_
  obtain ⟨ad2, wd3, hx4, hw⟩ := x_box1 (P := Try.prog) (L := [(0, .int .u8 a0), (1, .agg #[.int .u8 (vx 0 a1 0), .int .u8 (vx 0 a1 1)]), (2, .agg #[.int .u16 (vx 0 a2 0), .int .u16 (vx 0 a2 1)])]) (elem := 47) (v := (Operand.tmp 1)) (ty := 0) hw eA47 a1 (by kernel_rfl)
  refine go_run hs (op := (Op.box 47 (Operand.tmp 1))) (ty := 0) (dst := some 4) (g := none) (by kernel_rfl) (by kernel_rfl) (by kernel_rfl) hx4 [0, 2, 4] (L' := [(0, .int .u8 a0), (2, .agg #[.int .u16 (vx 0 a2 0), .int .u16 (vx 0 a2 1)]), (4, .pointer (some ad2))]) (by kernel_rfl) ?_
  clear hs; intro a hs
  obtain ⟨ad6, wd7, hx8, hw⟩ := x_box1 (P := Try.prog) (L := [(0, .int .u8 a0), (2, .agg #[.int .u16 (vx 0 a2 0), .int .u16 (vx 0 a2 1)]), (4, .pointer (some ad2))]) (elem := 49) (v := (Operand.tmp 2)) (ty := 0) hw eA49 a2 (by kernel_rfl)
  refine go_run hs (op := (Op.box 49 (Operand.tmp 2))) (ty := 0) (dst := some 5) (g := none) (by kernel_rfl) (by kernel_rfl) (by kernel_rfl) hx8 [0, 4, 5] (L' := [(0, .int .u8 a0), (4, .pointer (some ad2)), (5, .pointer (some ad6))]) (by kernel_rfl) ?_
  clear hs; intro a hs
  refine go_pvs 2 3 [0, 4, 5] hs (L' := [(0, .int .u8 a0), (4, .pointer (some ad2)), (5, .pointer (some ad6))]) (by kernel_rfl) ?_ rfl
  clear hs; intro a hs
  refine go_end (by kernel_rfl) ?_
  refine hK1 _ _ ?_
  refine go_seq_k fun K10 hK10 => ?_
  refine go_region ?_
  obtain ⟨t12, hx13, H⟩ := bind_some H
  refine go_call hs (op := (Op.call { callee := (Callee.value (Operand.func 19)), args := #[], argTypes := #[] })) (ty := 4) (dst := some 29) (g := none) (by kernel_rfl) (by kernel_rfl) (by kernel_rfl) (f := 19) (args := #[]) (by kernel_rfl) (rivetlaw08_shown.calls t12 _ hx13) ?_
  rintro e wd14 ⟨rfl, hw15⟩
  refine ⟨_, rfl, ?_⟩
  replace hw := hw.call hw15
  intro a hs1
  replace hs : Slots a 204 [(0, .int .u8 a0), (4, .pointer (some ad2)), (5, .pointer (some ad6)), (29, .bool t12)] := hs1.keep [0, 4, 5, 29] (by kernel_rfl)
  clear hs1
  refine go_pvs 1 2 [0, 4, 5, 7] hs (L' := [(0, .int .u8 a0), (4, .pointer (some ad2)), (5, .pointer (some ad6)), (7, .bool t12)]) (by kernel_rfl) ?_ rfl
  clear hs; intro a hs
  refine go_end (by kernel_rfl) ?_
  refine hK10 _ _ ?_
  refine go_seq_k fun K16 hK16 => ?_
  refine go_region ?_
  refine go_pvs 0 5 [4, 5, 7, 8] hs (L' := [(4, .pointer (some ad2)), (5, .pointer (some ad6)), (7, .bool t12), (8, .int .i64 (w64 (2 + (w64 (a0.tmod 32)))))]) (by kernel_rfl) ?_ rfl
  clear hs; intro a hs
  obtain ⟨y17, hy17, H⟩ := nm_some H
  replace hs : Slots a 204 [(4, .pointer (some ad2)), (5, .pointer (some ad6)), (7, .bool t12), (8, .int .i64 y17)] := by rw [hy17]; exact hs
  refine go_end (by kernel_rfl) ?_
  refine hK16 _ _ ?_
  refine go_seq_k fun K18 hK18 => ?_
  refine go_region ?_
  refine go_run hs (op := (Op.indexAddr 47 (Operand.tmp 4) (Operand.const (Value.int IntKind.i64 0)))) (ty := 0) (dst := some 34) (g := none) (by kernel_rfl) (by kernel_rfl) (by kernel_rfl) (x_vidx (e := 5) (p := ad2) (n := 2) (k := .i64) (i := 0) (sz := 1) (by kernel_rfl) (by kernel_rfl) (by kernel_rfl) (by kernel_rfl) (⟨by decide, by decide⟩ : (0 : Int) ≤ 0 ∧ (0 : Int) < ((2 : Nat) : Int)).1 (⟨by decide, by decide⟩ : (0 : Int) ≤ 0 ∧ (0 : Int) < ((2 : Nat) : Int)).2) [4, 5, 7, 8, 34] (L' := [(4, .pointer (some ad2)), (5, .pointer (some ad6)), (7, .bool t12), (8, .int .i64 y17), (34, .pointer (some ((ad2 : Addr).add ((0 : Int).toNat * 1))))]) (by kernel_rfl) ?_
  clear hs; intro a hs
  refine go_run hs (op := (Op.load 5 (Operand.tmp 34))) (ty := 5) (dst := some 35) (g := none) (by kernel_rfl) (by kernel_rfl) (by kernel_rfl) (x_ld (E := eA47) (off := 0) (p := (ad2 : Addr).add ((0 : Int).toNat * 1)) (v := .int .u8 (vx 0 a1 0)) (Rd.of_own (hw.up 1)) (one_ok a1).1 (one_ok a1).2 (by kernel_rfl) (by simp only [add_add', Int.toNat_zero, Nat.zero_mul, Nat.zero_add, Nat.mul_one] <;> rfl) (by kernel_rfl) (by kernel_rfl)) [4, 5, 7, 8, 35] (L' := [(4, .pointer (some ad2)), (5, .pointer (some ad6)), (7, .bool t12), (8, .int .i64 y17), (35, .int .u8 (vx 0 a1 0))]) (by kernel_rfl) ?_
  clear hs; intro a hs
  refine go_pvs 2 4 [4, 5, 7, 8, 36, 37] hs (L' := [(4, .pointer (some ad2)), (5, .pointer (some ad6)), (7, .bool t12), (8, .int .i64 y17), (36, .int .i64 (w64 (vx 0 a1 0))), (37, .int .i64 y17)]) (by kernel_rfl) ?_ rfl
  clear hs; intro a hs
  obtain ⟨hp19, H⟩ := ite_only H
  refine go_run hs (op := (Op.binOp BinOp.rem 3 (Operand.tmp 36) (Operand.tmp 37) 3)) (ty := 3) (dst := some 38) (g := none) (by kernel_rfl) (by kernel_rfl) (by kernel_rfl) (x_rem (k := .i64) (m := w64 (vx 0 a1 0)) (n := y17) (by kernel_rfl) (by kernel_rfl) hp19) [4, 5, 7, 8, 38] (L' := [(4, .pointer (some ad2)), (5, .pointer (some ad6)), (7, .bool t12), (8, .int .i64 y17), (38, .int .i64 ((w64 (vx 0 a1 0)).tmod y17))]) (by kernel_rfl) ?_
  clear hs; intro a hs
  refine go_pvs 5 6 [4, 5, 7, 8, 9] hs (L' := [(4, .pointer (some ad2)), (5, .pointer (some ad6)), (7, .bool t12), (8, .int .i64 y17), (9, .int .i64 ((w64 (vx 0 a1 0)).tmod y17))]) (by kernel_rfl) ?_ rfl
  clear hs; intro a hs
  obtain ⟨y20, hy20, H⟩ := nm_some H
  replace hs : Slots a 204 [(4, .pointer (some ad2)), (5, .pointer (some ad6)), (7, .bool t12), (8, .int .i64 y17), (9, .int .i64 y20)] := by rw [hy20]; exact hs
  refine go_end (by kernel_rfl) ?_
  refine hK18 _ _ ?_
  refine go_seq_k fun K21 hK21 => ?_
  refine go_region ?_
  refine go_run hs (op := (Op.indexAddr 47 (Operand.tmp 4) (Operand.const (Value.int IntKind.i64 1)))) (ty := 0) (dst := some 39) (g := none) (by kernel_rfl) (by kernel_rfl) (by kernel_rfl) (x_vidx (e := 5) (p := ad2) (n := 2) (k := .i64) (i := 1) (sz := 1) (by kernel_rfl) (by kernel_rfl) (by kernel_rfl) (by kernel_rfl) (⟨by decide, by decide⟩ : (0 : Int) ≤ 1 ∧ (1 : Int) < ((2 : Nat) : Int)).1 (⟨by decide, by decide⟩ : (0 : Int) ≤ 1 ∧ (1 : Int) < ((2 : Nat) : Int)).2) [5, 7, 8, 9, 39] (L' := [(5, .pointer (some ad6)), (7, .bool t12), (8, .int .i64 y17), (9, .int .i64 y20), (39, .pointer (some ((ad2 : Addr).add ((1 : Int).toNat * 1))))]) (by kernel_rfl) ?_
  clear hs; intro a hs
  refine go_run hs (op := (Op.load 5 (Operand.tmp 39))) (ty := 5) (dst := some 40) (g := none) (by kernel_rfl) (by kernel_rfl) (by kernel_rfl) (x_ld (E := eA47) (off := 1) (p := (ad2 : Addr).add ((1 : Int).toNat * 1)) (v := .int .u8 (vx 0 a1 1)) (Rd.of_own (hw.up 1)) (one_ok a1).1 (one_ok a1).2 (by kernel_rfl) (by simp only [add_add', Int.toNat_zero, Nat.zero_mul, Nat.zero_add, Nat.mul_one] <;> rfl) (by kernel_rfl) (by kernel_rfl)) [5, 7, 8, 9, 40] (L' := [(5, .pointer (some ad6)), (7, .bool t12), (8, .int .i64 y17), (9, .int .i64 y20), (40, .int .u8 (vx 0 a1 1))]) (by kernel_rfl) ?_
  clear hs; intro a hs
  refine go_pvs 2 4 [5, 7, 8, 9, 41, 42] hs (L' := [(5, .pointer (some ad6)), (7, .bool t12), (8, .int .i64 y17), (9, .int .i64 y20), (41, .int .i64 (w64 (vx 0 a1 1))), (42, .int .i64 y17)]) (by kernel_rfl) ?_ rfl
  clear hs; intro a hs
  obtain ⟨hp22, H⟩ := ite_only H
  refine go_run hs (op := (Op.binOp BinOp.rem 3 (Operand.tmp 41) (Operand.tmp 42) 3)) (ty := 3) (dst := some 43) (g := none) (by kernel_rfl) (by kernel_rfl) (by kernel_rfl) (x_rem (k := .i64) (m := w64 (vx 0 a1 1)) (n := y17) (by kernel_rfl) (by kernel_rfl) hp22) [5, 7, 8, 9, 43] (L' := [(5, .pointer (some ad6)), (7, .bool t12), (8, .int .i64 y17), (9, .int .i64 y20), (43, .int .i64 ((w64 (vx 0 a1 1)).tmod y17))]) (by kernel_rfl) ?_
  clear hs; intro a hs
  refine go_pvs 5 6 [5, 7, 8, 9, 10] hs (L' := [(5, .pointer (some ad6)), (7, .bool t12), (8, .int .i64 y17), (9, .int .i64 y20), (10, .int .i64 ((w64 (vx 0 a1 1)).tmod y17))]) (by kernel_rfl) ?_ rfl
  clear hs; intro a hs
  obtain ⟨y23, hy23, H⟩ := nm_some H
  replace hs : Slots a 204 [(5, .pointer (some ad6)), (7, .bool t12), (8, .int .i64 y17), (9, .int .i64 y20), (10, .int .i64 y23)] := by rw [hy23]; exact hs
  refine go_end (by kernel_rfl) ?_
  refine hK21 _ _ ?_
  refine go_seq_k fun K24 hK24 => ?_
  refine go_region ?_
  refine go_pvs 0 4 [5, 7, 8, 9, 10, 11] hs (L' := [(5, .pointer (some ad6)), (7, .bool t12), (8, .int .i64 y17), (9, .int .i64 y20), (10, .int .i64 y23), (11, .int .i64 (mnn y20 y23))]) (by kernel_rfl) ?_ rfl
  clear hs; intro a hs
  refine go_end (by kernel_rfl) ?_
  refine hK24 _ _ ?_
  refine go_seq_k fun K25 hK25 => ?_
  refine go_region ?_
  refine go_pvs 0 4 [5, 7, 8, 11, 12] hs (L' := [(5, .pointer (some ad6)), (7, .bool t12), (8, .int .i64 y17), (11, .int .i64 (mnn y20 y23)), (12, .int .i64 (mxx y20 y23))]) (by kernel_rfl) ?_ rfl
  clear hs; intro a hs
  refine go_end (by kernel_rfl) ?_
  refine hK25 _ _ ?_
  refine go_seq_k fun K26 hK26 => ?_
  refine go_region ?_
  refine go_pvs 0 1 [5, 7, 8, 11, 12, 50] hs (L' := [(5, .pointer (some ad6)), (7, .bool t12), (8, .int .i64 y17), (11, .int .i64 (mnn y20 y23)), (12, .int .i64 (mxx y20 y23)), (50, .int .i64 y17)]) (by kernel_rfl) ?_ rfl
  clear hs; intro a hs
  obtain ⟨hp27, H⟩ := ite_only H
  obtain ⟨A28, c29, wd30, hx31, hw⟩ := n_make (P := Try.prog) (L := [(5, .pointer (some ad6)), (7, .bool t12), (8, .int .i64 y17), (11, .int .i64 (mnn y20 y23)), (12, .int .i64 (mxx y20 y23)), (50, .int .i64 y17)]) (t := 22) (ty := 22) (T := 23) (x := (Operand.tmp 50)) (y := (Operand.tmp 50)) (E := (eI .u32)) (z := .int .u32 0) (bytes := 4) (n := y17) hw (by kernel_rfl) (by kernel_rfl) (by kernel_rfl) (by kernel_rfl) (by kernel_rfl) hp27.1 (by have := hp27.2; omega) (by have := hp27.2; omega)
  refine go_run hs (op := (Op.makeSlice 22 (Operand.tmp 50) (Operand.tmp 50))) (ty := 22) (dst := some 51) (g := none) (by kernel_rfl) (by kernel_rfl) (by kernel_rfl) hx31 [5, 7, 8, 11, 12, 51] (L' := [(5, .pointer (some ad6)), (7, .bool t12), (8, .int .i64 y17), (11, .int .i64 (mnn y20 y23)), (12, .int .i64 (mxx y20 y23)), (51, .slice A28 (List.replicate (y17 : Int).toNat (eI .u32).d).length c29)]) (by kernel_rfl) ?_
  clear hs; intro a hs
  refine go_pvs 2 3 [5, 7, 8, 11, 12, 13] hs (L' := [(5, .pointer (some ad6)), (7, .bool t12), (8, .int .i64 y17), (11, .int .i64 (mnn y20 y23)), (12, .int .i64 (mxx y20 y23)), (13, .slice A28 (List.replicate (y17 : Int).toNat (eI .u32).d).length c29)]) (by kernel_rfl) ?_ rfl
  clear hs; intro a hs
  refine go_end (by kernel_rfl) ?_
  refine hK26 _ _ ?_
  refine go_seq_k fun K33 hK33 => ?_
  refine go_region ?_
  refine go_pvs 0 2 [5, 7, 8, 11, 12, 13, 52, 53] hs (L' := [(5, .pointer (some ad6)), (7, .bool t12), (8, .int .i64 y17), (11, .int .i64 (mnn y20 y23)), (12, .int .i64 (mxx y20 y23)), (13, .slice A28 (List.replicate (y17 : Int).toNat (eI .u32).d).length c29), (52, .slice A28 (List.replicate (y17 : Int).toNat (eI .u32).d).length c29), (53, .int .i64 (mnn y20 y23))]) (by kernel_rfl) ?_ rfl
  clear hs; intro a hs
  refine go_run hs (op := (Op.indexAddr 49 (Operand.tmp 5) (Operand.const (Value.int IntKind.i64 0)))) (ty := 0) (dst := some 54) (g := none) (by kernel_rfl) (by kernel_rfl) (by kernel_rfl) (x_vidx (e := 48) (p := ad6) (n := 2) (k := .i64) (i := 0) (sz := 1) (by kernel_rfl) (by kernel_rfl) (by kernel_rfl) (by kernel_rfl) (⟨by decide, by decide⟩ : (0 : Int) ≤ 0 ∧ (0 : Int) < ((2 : Nat) : Int)).1 (⟨by decide, by decide⟩ : (0 : Int) ≤ 0 ∧ (0 : Int) < ((2 : Nat) : Int)).2) [5, 7, 8, 11, 12, 13, 52, 53, 54] (L' := [(5, .pointer (some ad6)), (7, .bool t12), (8, .int .i64 y17), (11, .int .i64 (mnn y20 y23)), (12, .int .i64 (mxx y20 y23)), (13, .slice A28 (List.replicate (y17 : Int).toNat (eI .u32).d).length c29), (52, .slice A28 (List.replicate (y17 : Int).toNat (eI .u32).d).length c29), (53, .int .i64 (mnn y20 y23)), (54, .pointer (some ((ad6 : Addr).add ((0 : Int).toNat * 1))))]) (by kernel_rfl) ?_
  clear hs; intro a hs
  refine go_run hs (op := (Op.load 48 (Operand.tmp 54))) (ty := 48) (dst := some 55) (g := none) (by kernel_rfl) (by kernel_rfl) (by kernel_rfl) (x_ld (E := eA49) (off := 0) (p := (ad6 : Addr).add ((0 : Int).toNat * 1)) (v := .int .u16 (vx 0 a2 0)) (Rd.of_own (hw.up 1)) (one_ok a2).1 (one_ok a2).2 (by kernel_rfl) (by simp only [add_add', Int.toNat_zero, Nat.zero_mul, Nat.zero_add, Nat.mul_one] <;> rfl) (by kernel_rfl) (by kernel_rfl)) [5, 7, 8, 11, 12, 13, 52, 53, 55] (L' := [(5, .pointer (some ad6)), (7, .bool t12), (8, .int .i64 y17), (11, .int .i64 (mnn y20 y23)), (12, .int .i64 (mxx y20 y23)), (13, .slice A28 (List.replicate (y17 : Int).toNat (eI .u32).d).length c29), (52, .slice A28 (List.replicate (y17 : Int).toNat (eI .u32).d).length c29), (53, .int .i64 (mnn y20 y23)), (55, .int .u16 (vx 0 a2 0))]) (by kernel_rfl) ?_
  clear hs; intro a hs
  refine go_pvs 4 5 [5, 7, 8, 11, 12, 13, 52, 53, 56] hs (L' := [(5, .pointer (some ad6)), (7, .bool t12), (8, .int .i64 y17), (11, .int .i64 (mnn y20 y23)), (12, .int .i64 (mxx y20 y23)), (13, .slice A28 (List.replicate (y17 : Int).toNat (eI .u32).d).length c29), (52, .slice A28 (List.replicate (y17 : Int).toNat (eI .u32).d).length c29), (53, .int .i64 (mnn y20 y23)), (56, .int .u32 (wu32 (vx 0 a2 0)))]) (by kernel_rfl) ?_ rfl
  clear hs; intro a hs
  obtain ⟨hp34, H⟩ := ite_only H
  obtain ⟨ad35, rfl⟩ := (Rd.of_own (hw.up 0)).some hp34.1 hp34.2
  refine go_run hs (op := (Op.indexAddr 22 (Operand.tmp 52) (Operand.tmp 53))) (ty := 0) (dst := some 57) (g := none) (by kernel_rfl) (by kernel_rfl) (by kernel_rfl) (x_idx (T := 23) (sz := 1) (a := ad35) (n := (List.replicate (y17 : Int).toNat (eI .u32).d).length) (cap := c29) (k := .i64) (i := (mnn y20 y23)) (by kernel_rfl) (by kernel_rfl) (by kernel_rfl) (by kernel_rfl) hp34.1 hp34.2) [5, 7, 8, 11, 12, 13, 56, 57] (L' := [(5, .pointer (some ad6)), (7, .bool t12), (8, .int .i64 y17), (11, .int .i64 (mnn y20 y23)), (12, .int .i64 (mxx y20 y23)), (13, .slice (some ad35) (List.replicate (y17 : Int).toNat (eI .u32).d).length c29), (56, .int .u32 (wu32 (vx 0 a2 0))), (57, .pointer (some (ad35.add ((mnn y20 y23).toNat * 1))))]) (by kernel_rfl) ?_
  clear hs; intro a hs
  obtain ⟨wd36, hx37, hw⟩ := x_put (P := Try.prog) (L := [(5, .pointer (some ad6)), (7, .bool t12), (8, .int .i64 y17), (11, .int .i64 (mnn y20 y23)), (12, .int .i64 (mxx y20 y23)), (13, .slice (some ad35) (List.replicate (y17 : Int).toNat (eI .u32).d).length c29), (56, .int .u32 (wu32 (vx 0 a2 0))), (57, .pointer (some (ad35.add ((mnn y20 y23).toNat * 1))))]) (ty := 0) (t := 23) (x := (Operand.tmp 57)) (y := (Operand.tmp 56)) (off := 0) (p := ad35.add ((mnn y20 y23).toNat * 1)) (v := .int .u32 (wu32 (vx 0 a2 0))) (vs := [.int .u32 (wu32 (vx 0 a2 0))]) (i := (mnn y20 y23)) (e' := wu32 (vx 0 a2 0)) hw rfl hp34.1 hp34.2 (by kernel_rfl) rfl (by kernel_rfl) rfl (by kernel_rfl) (Nat.le_of_ble_eq_true rfl) (by simp [Value.oneCell']) (by kernel_rfl)
  refine go_unit hs (op := (Op.store 23 (Operand.tmp 57) (Operand.tmp 56))) (ty := 0) (dst := none) (g := none) (by kernel_rfl) (by kernel_rfl) (by kernel_rfl) hx37 [5, 7, 8, 11, 12, 13] (L' := [(5, .pointer (some ad6)), (7, .bool t12), (8, .int .i64 y17), (11, .int .i64 (mnn y20 y23)), (12, .int .i64 (mxx y20 y23)), (13, .slice (some ad35) (List.replicate (y17 : Int).toNat (eI .u32).d).length c29)]) (by kernel_rfl) ?_
  clear hs; intro a hs
  replace hs : Slots a 204 [(5, .pointer (some ad6)), (7, .bool t12), (8, .int .i64 y17), (11, .int .i64 (mnn y20 y23)), (12, .int .i64 (mxx y20 y23)), (13, .slice (some ad35) ((List.replicate (y17 : Int).toNat (eI .u32).d).set ((mnn y20 y23) : Int).toNat (wu32 (vx 0 a2 0))).length c29)] := by rw [show ((List.replicate (y17 : Int).toNat (eI .u32).d).set ((mnn y20 y23) : Int).toNat (wu32 (vx 0 a2 0))).length = (List.replicate (y17 : Int).toNat (eI .u32).d).length from List.length_set]; exact hs
  refine go_end (by kernel_rfl) ?_
  refine hK33 _ _ ?_
  refine go_seq_k fun K38 hK38 => ?_
  refine go_region ?_
  refine go_pvs 0 2 [5, 7, 8, 11, 12, 13, 58, 59] hs (L' := [(5, .pointer (some ad6)), (7, .bool t12), (8, .int .i64 y17), (11, .int .i64 (mnn y20 y23)), (12, .int .i64 (mxx y20 y23)), (13, .slice (some ad35) ((List.replicate (y17 : Int).toNat (eI .u32).d).set ((mnn y20 y23) : Int).toNat (wu32 (vx 0 a2 0))).length c29), (58, .slice (some ad35) ((List.replicate (y17 : Int).toNat (eI .u32).d).set ((mnn y20 y23) : Int).toNat (wu32 (vx 0 a2 0))).length c29), (59, .int .i64 (mxx y20 y23))]) (by kernel_rfl) ?_ rfl
  clear hs; intro a hs
  refine go_run hs (op := (Op.indexAddr 49 (Operand.tmp 5) (Operand.const (Value.int IntKind.i64 1)))) (ty := 0) (dst := some 60) (g := none) (by kernel_rfl) (by kernel_rfl) (by kernel_rfl) (x_vidx (e := 48) (p := ad6) (n := 2) (k := .i64) (i := 1) (sz := 1) (by kernel_rfl) (by kernel_rfl) (by kernel_rfl) (by kernel_rfl) (⟨by decide, by decide⟩ : (0 : Int) ≤ 1 ∧ (1 : Int) < ((2 : Nat) : Int)).1 (⟨by decide, by decide⟩ : (0 : Int) ≤ 1 ∧ (1 : Int) < ((2 : Nat) : Int)).2) [5, 7, 8, 11, 12, 13, 58, 59, 60] (L' := [(5, .pointer (some ad6)), (7, .bool t12), (8, .int .i64 y17), (11, .int .i64 (mnn y20 y23)), (12, .int .i64 (mxx y20 y23)), (13, .slice (some ad35) ((List.replicate (y17 : Int).toNat (eI .u32).d).set ((mnn y20 y23) : Int).toNat (wu32 (vx 0 a2 0))).length c29), (58, .slice (some ad35) ((List.replicate (y17 : Int).toNat (eI .u32).d).set ((mnn y20 y23) : Int).toNat (wu32 (vx 0 a2 0))).length c29), (59, .int .i64 (mxx y20 y23)), (60, .pointer (some ((ad6 : Addr).add ((1 : Int).toNat * 1))))]) (by kernel_rfl) ?_
  clear hs; intro a hs
  refine go_run hs (op := (Op.load 48 (Operand.tmp 60))) (ty := 48) (dst := some 61) (g := none) (by kernel_rfl) (by kernel_rfl) (by kernel_rfl) (x_ld (E := eA49) (off := 1) (p := (ad6 : Addr).add ((1 : Int).toNat * 1)) (v := .int .u16 (vx 0 a2 1)) (Rd.of_own (hw.up 1)) (one_ok a2).1 (one_ok a2).2 (by kernel_rfl) (by simp only [add_add', Int.toNat_zero, Nat.zero_mul, Nat.zero_add, Nat.mul_one] <;> rfl) (by kernel_rfl) (by kernel_rfl)) [5, 7, 8, 11, 12, 13, 58, 59, 61] (L' := [(5, .pointer (some ad6)), (7, .bool t12), (8, .int .i64 y17), (11, .int .i64 (mnn y20 y23)), (12, .int .i64 (mxx y20 y23)), (13, .slice (some ad35) ((List.replicate (y17 : Int).toNat (eI .u32).d).set ((mnn y20 y23) : Int).toNat (wu32 (vx 0 a2 0))).length c29), (58, .slice (some ad35) ((List.replicate (y17 : Int).toNat (eI .u32).d).set ((mnn y20 y23) : Int).toNat (wu32 (vx 0 a2 0))).length c29), (59, .int .i64 (mxx y20 y23)), (61, .int .u16 (vx 0 a2 1))]) (by kernel_rfl) ?_
  clear hs; intro a hs
  refine go_pvs 4 5 [5, 7, 8, 11, 12, 13, 58, 59, 62] hs (L' := [(5, .pointer (some ad6)), (7, .bool t12), (8, .int .i64 y17), (11, .int .i64 (mnn y20 y23)), (12, .int .i64 (mxx y20 y23)), (13, .slice (some ad35) ((List.replicate (y17 : Int).toNat (eI .u32).d).set ((mnn y20 y23) : Int).toNat (wu32 (vx 0 a2 0))).length c29), (58, .slice (some ad35) ((List.replicate (y17 : Int).toNat (eI .u32).d).set ((mnn y20 y23) : Int).toNat (wu32 (vx 0 a2 0))).length c29), (59, .int .i64 (mxx y20 y23)), (62, .int .u32 (wu32 (vx 0 a2 1)))]) (by kernel_rfl) ?_ rfl
  clear hs; intro a hs
  obtain ⟨hp39, H⟩ := ite_only H
  refine go_run hs (op := (Op.indexAddr 22 (Operand.tmp 58) (Operand.tmp 59))) (ty := 0) (dst := some 63) (g := none) (by kernel_rfl) (by kernel_rfl) (by kernel_rfl) (x_idx (T := 23) (sz := 1) (a := ad35) (n := ((List.replicate (y17 : Int).toNat (eI .u32).d).set ((mnn y20 y23) : Int).toNat (wu32 (vx 0 a2 0))).length) (cap := c29) (k := .i64) (i := (mxx y20 y23)) (by kernel_rfl) (by kernel_rfl) (by kernel_rfl) (by kernel_rfl) hp39.1 hp39.2) [5, 7, 8, 11, 12, 13, 62, 63] (L' := [(5, .pointer (some ad6)), (7, .bool t12), (8, .int .i64 y17), (11, .int .i64 (mnn y20 y23)), (12, .int .i64 (mxx y20 y23)), (13, .slice (some ad35) ((List.replicate (y17 : Int).toNat (eI .u32).d).set ((mnn y20 y23) : Int).toNat (wu32 (vx 0 a2 0))).length c29), (62, .int .u32 (wu32 (vx 0 a2 1))), (63, .pointer (some (ad35.add ((mxx y20 y23).toNat * 1))))]) (by kernel_rfl) ?_
  clear hs; intro a hs
  obtain ⟨wd40, hx41, hw⟩ := x_put (P := Try.prog) (L := [(5, .pointer (some ad6)), (7, .bool t12), (8, .int .i64 y17), (11, .int .i64 (mnn y20 y23)), (12, .int .i64 (mxx y20 y23)), (13, .slice (some ad35) ((List.replicate (y17 : Int).toNat (eI .u32).d).set ((mnn y20 y23) : Int).toNat (wu32 (vx 0 a2 0))).length c29), (62, .int .u32 (wu32 (vx 0 a2 1))), (63, .pointer (some (ad35.add ((mxx y20 y23).toNat * 1))))]) (ty := 0) (t := 23) (x := (Operand.tmp 63)) (y := (Operand.tmp 62)) (off := 0) (p := ad35.add ((mxx y20 y23).toNat * 1)) (v := .int .u32 (wu32 (vx 0 a2 1))) (vs := [.int .u32 (wu32 (vx 0 a2 1))]) (i := (mxx y20 y23)) (e' := wu32 (vx 0 a2 1)) hw rfl hp39.1 hp39.2 (by kernel_rfl) rfl (by kernel_rfl) rfl (by kernel_rfl) (Nat.le_of_ble_eq_true rfl) (by simp [Value.oneCell']) (by kernel_rfl)
  refine go_unit hs (op := (Op.store 23 (Operand.tmp 63) (Operand.tmp 62))) (ty := 0) (dst := none) (g := none) (by kernel_rfl) (by kernel_rfl) (by kernel_rfl) hx41 [5, 7, 8, 11, 12, 13] (L' := [(5, .pointer (some ad6)), (7, .bool t12), (8, .int .i64 y17), (11, .int .i64 (mnn y20 y23)), (12, .int .i64 (mxx y20 y23)), (13, .slice (some ad35) ((List.replicate (y17 : Int).toNat (eI .u32).d).set ((mnn y20 y23) : Int).toNat (wu32 (vx 0 a2 0))).length c29)]) (by kernel_rfl) ?_
  clear hs; intro a hs
  replace hs : Slots a 204 [(5, .pointer (some ad6)), (7, .bool t12), (8, .int .i64 y17), (11, .int .i64 (mnn y20 y23)), (12, .int .i64 (mxx y20 y23)), (13, .slice (some ad35) (((List.replicate (y17 : Int).toNat (eI .u32).d).set ((mnn y20 y23) : Int).toNat (wu32 (vx 0 a2 0))).set ((mxx y20 y23) : Int).toNat (wu32 (vx 0 a2 1))).length c29)] := by rw [show (((List.replicate (y17 : Int).toNat (eI .u32).d).set ((mnn y20 y23) : Int).toNat (wu32 (vx 0 a2 0))).set ((mxx y20 y23) : Int).toNat (wu32 (vx 0 a2 1))).length = ((List.replicate (y17 : Int).toNat (eI .u32).d).set ((mnn y20 y23) : Int).toNat (wu32 (vx 0 a2 0))).length from List.length_set]; exact hs
  refine go_end (by kernel_rfl) ?_
  refine hK38 _ _ ?_
  refine go_seq_k fun K42 hK42 => ?_
  refine go_region ?_
  refine go_pvs 0 2 [5, 7, 8, 11, 12, 13, 65, 66] hs (L' := [(5, .pointer (some ad6)), (7, .bool t12), (8, .int .i64 y17), (11, .int .i64 (mnn y20 y23)), (12, .int .i64 (mxx y20 y23)), (13, .slice (some ad35) (((List.replicate (y17 : Int).toNat (eI .u32).d).set ((mnn y20 y23) : Int).toNat (wu32 (vx 0 a2 0))).set ((mxx y20 y23) : Int).toNat (wu32 (vx 0 a2 1))).length c29), (65, .slice (some ad35) (((List.replicate (y17 : Int).toNat (eI .u32).d).set ((mnn y20 y23) : Int).toNat (wu32 (vx 0 a2 0))).set ((mxx y20 y23) : Int).toNat (wu32 (vx 0 a2 1))).length c29), (66, .int .i64 (mxx y20 y23))]) (by kernel_rfl) ?_ rfl
  clear hs; intro a hs
  obtain ⟨A43, c44, wd45, hx46, hw⟩ := n_lit (P := Try.prog) (L := [(5, .pointer (some ad6)), (7, .bool t12), (8, .int .i64 y17), (11, .int .i64 (mnn y20 y23)), (12, .int .i64 (mxx y20 y23)), (13, .slice (some ad35) (((List.replicate (y17 : Int).toNat (eI .u32).d).set ((mnn y20 y23) : Int).toNat (wu32 (vx 0 a2 0))).set ((mxx y20 y23) : Int).toNat (wu32 (vx 0 a2 1))).length c29), (65, .slice (some ad35) (((List.replicate (y17 : Int).toNat (eI .u32).d).set ((mnn y20 y23) : Int).toNat (wu32 (vx 0 a2 0))).set ((mxx y20 y23) : Int).toNat (wu32 (vx 0 a2 1))).length c29), (66, .int .i64 (mxx y20 y23))]) (t := 35) (ty := 35) (T := 3) (len := 1) (parts := #[(0, (Operand.tmp 66))]) (z := .int .i64 0) (bytes := 8) (cells := #[.int .i64 (mxx y20 y23)]) hw (eI .i64) ([mxx y20 y23] : List Int) (by kernel_rfl) (by kernel_rfl) (by kernel_rfl) (by kernel_rfl) (by kernel_rfl) (by kernel_rfl) (by kernel_rfl)
  refine go_run hs (op := (Op.buildSlice 35 1 #[(0, (Operand.tmp 66))])) (ty := 35) (dst := some 67) (g := none) (by kernel_rfl) (by kernel_rfl) (by kernel_rfl) hx46 [5, 7, 8, 11, 12, 13, 65, 67] (L' := [(5, .pointer (some ad6)), (7, .bool t12), (8, .int .i64 y17), (11, .int .i64 (mnn y20 y23)), (12, .int .i64 (mxx y20 y23)), (13, .slice (some ad35) (((List.replicate (y17 : Int).toNat (eI .u32).d).set ((mnn y20 y23) : Int).toNat (wu32 (vx 0 a2 0))).set ((mxx y20 y23) : Int).toNat (wu32 (vx 0 a2 1))).length c29), (65, .slice (some ad35) (((List.replicate (y17 : Int).toNat (eI .u32).d).set ((mnn y20 y23) : Int).toNat (wu32 (vx 0 a2 0))).set ((mxx y20 y23) : Int).toNat (wu32 (vx 0 a2 1))).length c29), (67, .slice A43 ([mxx y20 y23] : List Int).length c44)]) (by kernel_rfl) ?_
  clear hs; intro a hs
  obtain ⟨⟨t49, t50, t51⟩, hx52, H⟩ := bind_some H
  refine go_call hs (op := (Op.call { callee := (Callee.value (Operand.func 20)), args := #[(Operand.tmp 65), (Operand.tmp 67)], argTypes := #[22, 35] })) (ty := 36) (dst := some 68) (g := none) (by kernel_rfl) (by kernel_rfl) (by kernel_rfl) (f := 20) (args := #[.slice (some ad35) (((List.replicate (y17 : Int).toNat (eI .u32).d).set ((mnn y20 y23) : Int).toNat (wu32 (vx 0 a2 0))).set ((mxx y20 y23) : Int).toNat (wu32 (vx 0 a2 1))).length c29, .slice A43 ([mxx y20 y23] : List Int).length c44]) (by kernel_rfl) (chain_Pack.calls (some ad35) c29 (((List.replicate (y17 : Int).toNat (eI .u32).d).set ((mnn y20 y23) : Int).toNat (wu32 (vx 0 a2 0))).set ((mxx y20 y23) : Int).toNat (wu32 (vx 0 a2 1))) A43 c44 ([mxx y20 y23] : List Int) (t49, t50, t51) _ (Rd.of_own (hw.up 1)) (Rd.of_own (hw.up 0)) hx52) ?_
  rintro e wd55 ⟨A53, c54, rfl, hw56⟩
  refine ⟨_, rfl, ?_⟩
  replace hw := hw.call hw56
  intro a hs1
  replace hs : Slots a 204 [(5, .pointer (some ad6)), (7, .bool t12), (8, .int .i64 y17), (11, .int .i64 (mnn y20 y23)), (12, .int .i64 (mxx y20 y23)), (13, .slice (some ad35) (((List.replicate (y17 : Int).toNat (eI .u32).d).set ((mnn y20 y23) : Int).toNat (wu32 (vx 0 a2 0))).set ((mxx y20 y23) : Int).toNat (wu32 (vx 0 a2 1))).length c29), (68, .tuple #[.slice A53 t49.length c54, .int .i64 t50, .int .i64 t51])] := hs1.keep [5, 7, 8, 11, 12, 13, 68] (by kernel_rfl)
  clear hs1
  refine go_pvs 4 11 [5, 7, 8, 11, 12, 13, 14, 15, 16] hs (L' := [(5, .pointer (some ad6)), (7, .bool t12), (8, .int .i64 y17), (11, .int .i64 (mnn y20 y23)), (12, .int .i64 (mxx y20 y23)), (13, .slice (some ad35) (((List.replicate (y17 : Int).toNat (eI .u32).d).set ((mnn y20 y23) : Int).toNat (wu32 (vx 0 a2 0))).set ((mxx y20 y23) : Int).toNat (wu32 (vx 0 a2 1))).length c29), (14, .slice A53 t49.length c54), (15, .int .i64 t50), (16, .int .i64 t51)]) (by kernel_rfl) ?_ rfl
  clear hs; intro a hs
  refine go_end (by kernel_rfl) ?_
  refine hK42 _ _ ?_
  refine go_seq_k fun K58 hK58 => ?_
  have hJ2 : ∀ (a : Act) (w : World), Slots a 204 [(5, .pointer (some ad6)), (8, .int .i64 y17), (11, .int .i64 (mnn y20 y23)), (12, .int .i64 (mxx y20 y23)), (13, .slice (some ad35) (((List.replicate (y17 : Int).toNat (eI .u32).d).set ((mnn y20 y23) : Int).toNat (wu32 (vx 0 a2 0))).set ((mxx y20 y23) : Int).toNat (wu32 (vx 0 a2 1))).length c29), (14, .slice A53 t49.length c54)] → St [] w0 w [own 23 (eI .u32) A53 c54 t49, own 3 (eI .i64) A43 c44 ([mxx y20 y23] : List Int), own 23 (eI .u32) (some ad35) c29 (((List.replicate (y17 : Int).toNat (eI .u32).d).set ((mnn y20 y23) : Int).toNat (wu32 (vx 0 a2 0))).set ((mxx y20 y23) : Int).toNat (wu32 (vx 0 a2 1))), own 49 eA49 (some ad6) 1 [a2], own 47 eA47 (some ad2) 1 [a1]] → rivetlaw08_ChainOne.j2 y20 y23 t49 y17 a2 = some r → K58 a w := by
    intro a w hs hw H
    unfold rivetlaw08_ChainOne.j2 at H
    refine hK58 _ _ ?_
    refine go_seq_k fun K70 hK70 => ?_
    refine go_region ?_
    refine go_pvs 0 4 [5, 8, 11, 12, 13, 14, 101, 102, 103, 104] hs (L' := [(5, .pointer (some ad6)), (8, .int .i64 y17), (11, .int .i64 (mnn y20 y23)), (12, .int .i64 (mxx y20 y23)), (13, .slice (some ad35) (((List.replicate (y17 : Int).toNat (eI .u32).d).set ((mnn y20 y23) : Int).toNat (wu32 (vx 0 a2 0))).set ((mxx y20 y23) : Int).toNat (wu32 (vx 0 a2 1))).length c29), (14, .slice A53 t49.length c54), (101, .slice A53 t49.length c54), (102, .int .i64 (mxx y20 y23)), (103, .slice A53 t49.length c54), (104, .int .i64 (mxx y20 y23))]) (by kernel_rfl) ?_ rfl
    clear hs; intro a hs
    obtain ⟨hp71, H⟩ := ite_only H
    obtain ⟨ad72, rfl⟩ := (Rd.of_own (hw.up 0)).some hp71.1 hp71.2
    refine go_run hs (op := (Op.indexAddr 22 (Operand.tmp 103) (Operand.tmp 104))) (ty := 0) (dst := some 105) (g := none) (by kernel_rfl) (by kernel_rfl) (by kernel_rfl) (x_idx (T := 23) (sz := 1) (a := ad72) (n := t49.length) (cap := c54) (k := .i64) (i := (mxx y20 y23)) (by kernel_rfl) (by kernel_rfl) (by kernel_rfl) (by kernel_rfl) hp71.1 hp71.2) [5, 8, 11, 12, 13, 14, 101, 102, 105] (L' := [(5, .pointer (some ad6)), (8, .int .i64 y17), (11, .int .i64 (mnn y20 y23)), (12, .int .i64 (mxx y20 y23)), (13, .slice (some ad35) (((List.replicate (y17 : Int).toNat (eI .u32).d).set ((mnn y20 y23) : Int).toNat (wu32 (vx 0 a2 0))).set ((mxx y20 y23) : Int).toNat (wu32 (vx 0 a2 1))).length c29), (14, .slice (some ad72) t49.length c54), (101, .slice (some ad72) t49.length c54), (102, .int .i64 (mxx y20 y23)), (105, .pointer (some (ad72.add ((mxx y20 y23).toNat * 1))))]) (by kernel_rfl) ?_
    clear hs; intro a hs
    refine go_run hs (op := (Op.load 23 (Operand.tmp 105))) (ty := 23) (dst := some 106) (g := none) (by kernel_rfl) (by kernel_rfl) (by kernel_rfl) (x_ld (E := (eI .u32)) (off := 0) (p := ad72.add ((mxx y20 y23).toNat * 1)) (v := .int .u32 (ix (eI .u32).d t49 (mxx y20 y23))) (Rd.of_own (hw.up 0)) hp71.1 hp71.2 (by kernel_rfl) rfl (by kernel_rfl) (by kernel_rfl)) [5, 8, 11, 12, 13, 14, 101, 102, 106] (L' := [(5, .pointer (some ad6)), (8, .int .i64 y17), (11, .int .i64 (mnn y20 y23)), (12, .int .i64 (mxx y20 y23)), (13, .slice (some ad35) (((List.replicate (y17 : Int).toNat (eI .u32).d).set ((mnn y20 y23) : Int).toNat (wu32 (vx 0 a2 0))).set ((mxx y20 y23) : Int).toNat (wu32 (vx 0 a2 1))).length c29), (14, .slice (some ad72) t49.length c54), (101, .slice (some ad72) t49.length c54), (102, .int .i64 (mxx y20 y23)), (106, .int .u32 (ix (eI .u32).d t49 (mxx y20 y23)))]) (by kernel_rfl) ?_
    clear hs; intro a hs
    refine go_pvs 6 10 [5, 8, 11, 12, 13, 14, 101, 102, 110] hs (L' := [(5, .pointer (some ad6)), (8, .int .i64 y17), (11, .int .i64 (mnn y20 y23)), (12, .int .i64 (mxx y20 y23)), (13, .slice (some ad35) (((List.replicate (y17 : Int).toNat (eI .u32).d).set ((mnn y20 y23) : Int).toNat (wu32 (vx 0 a2 0))).set ((mxx y20 y23) : Int).toNat (wu32 (vx 0 a2 1))).length c29), (14, .slice (some ad72) t49.length c54), (101, .slice (some ad72) t49.length c54), (102, .int .i64 (mxx y20 y23)), (110, .int .u32 (bor .u32 (ix (eI .u32).d t49 (mxx y20 y23)) (wu32 (w64 ((mxx y20 y23) + 1)))))]) (by kernel_rfl) ?_ rfl
    clear hs; intro a hs
    obtain ⟨hp73, H⟩ := ite_only H
    refine go_run hs (op := (Op.indexAddr 22 (Operand.tmp 101) (Operand.tmp 102))) (ty := 0) (dst := some 111) (g := none) (by kernel_rfl) (by kernel_rfl) (by kernel_rfl) (x_idx (T := 23) (sz := 1) (a := ad72) (n := t49.length) (cap := c54) (k := .i64) (i := (mxx y20 y23)) (by kernel_rfl) (by kernel_rfl) (by kernel_rfl) (by kernel_rfl) hp73.1 hp73.2) [5, 8, 11, 12, 13, 14, 110, 111] (L' := [(5, .pointer (some ad6)), (8, .int .i64 y17), (11, .int .i64 (mnn y20 y23)), (12, .int .i64 (mxx y20 y23)), (13, .slice (some ad35) (((List.replicate (y17 : Int).toNat (eI .u32).d).set ((mnn y20 y23) : Int).toNat (wu32 (vx 0 a2 0))).set ((mxx y20 y23) : Int).toNat (wu32 (vx 0 a2 1))).length c29), (14, .slice (some ad72) t49.length c54), (110, .int .u32 (bor .u32 (ix (eI .u32).d t49 (mxx y20 y23)) (wu32 (w64 ((mxx y20 y23) + 1))))), (111, .pointer (some (ad72.add ((mxx y20 y23).toNat * 1))))]) (by kernel_rfl) ?_
    clear hs; intro a hs
    obtain ⟨wd74, hx75, hw⟩ := x_put (P := Try.prog) (L := [(5, .pointer (some ad6)), (8, .int .i64 y17), (11, .int .i64 (mnn y20 y23)), (12, .int .i64 (mxx y20 y23)), (13, .slice (some ad35) (((List.replicate (y17 : Int).toNat (eI .u32).d).set ((mnn y20 y23) : Int).toNat (wu32 (vx 0 a2 0))).set ((mxx y20 y23) : Int).toNat (wu32 (vx 0 a2 1))).length c29), (14, .slice (some ad72) t49.length c54), (110, .int .u32 (bor .u32 (ix (eI .u32).d t49 (mxx y20 y23)) (wu32 (w64 ((mxx y20 y23) + 1))))), (111, .pointer (some (ad72.add ((mxx y20 y23).toNat * 1))))]) (ty := 0) (t := 23) (x := (Operand.tmp 111)) (y := (Operand.tmp 110)) (off := 0) (p := ad72.add ((mxx y20 y23).toNat * 1)) (v := .int .u32 (bor .u32 (ix (eI .u32).d t49 (mxx y20 y23)) (wu32 (w64 ((mxx y20 y23) + 1))))) (vs := [.int .u32 (bor .u32 (ix (eI .u32).d t49 (mxx y20 y23)) (wu32 (w64 ((mxx y20 y23) + 1))))]) (i := (mxx y20 y23)) (e' := bor .u32 (ix (eI .u32).d t49 (mxx y20 y23)) (wu32 (w64 ((mxx y20 y23) + 1)))) hw rfl hp73.1 hp73.2 (by kernel_rfl) rfl (by kernel_rfl) rfl (by kernel_rfl) (Nat.le_of_ble_eq_true rfl) (by simp [Value.oneCell']) (by kernel_rfl)
    refine go_unit hs (op := (Op.store 23 (Operand.tmp 111) (Operand.tmp 110))) (ty := 0) (dst := none) (g := none) (by kernel_rfl) (by kernel_rfl) (by kernel_rfl) hx75 [5, 8, 11, 12, 13, 14] (L' := [(5, .pointer (some ad6)), (8, .int .i64 y17), (11, .int .i64 (mnn y20 y23)), (12, .int .i64 (mxx y20 y23)), (13, .slice (some ad35) (((List.replicate (y17 : Int).toNat (eI .u32).d).set ((mnn y20 y23) : Int).toNat (wu32 (vx 0 a2 0))).set ((mxx y20 y23) : Int).toNat (wu32 (vx 0 a2 1))).length c29), (14, .slice (some ad72) t49.length c54)]) (by kernel_rfl) ?_
    clear hs; intro a hs
    replace hs : Slots a 204 [(5, .pointer (some ad6)), (8, .int .i64 y17), (11, .int .i64 (mnn y20 y23)), (12, .int .i64 (mxx y20 y23)), (13, .slice (some ad35) (((List.replicate (y17 : Int).toNat (eI .u32).d).set ((mnn y20 y23) : Int).toNat (wu32 (vx 0 a2 0))).set ((mxx y20 y23) : Int).toNat (wu32 (vx 0 a2 1))).length c29), (14, .slice (some ad72) (t49.set ((mxx y20 y23) : Int).toNat (bor .u32 (ix (eI .u32).d t49 (mxx y20 y23)) (wu32 (w64 ((mxx y20 y23) + 1))))).length c54)] := by rw [show (t49.set ((mxx y20 y23) : Int).toNat (bor .u32 (ix (eI .u32).d t49 (mxx y20 y23)) (wu32 (w64 ((mxx y20 y23) + 1))))).length = (t49).length from List.length_set]; exact hs
    refine go_end (by kernel_rfl) ?_
    refine hK70 _ _ ?_
    refine go_seq_k fun K76 hK76 => ?_
    refine go_region ?_
    refine go_pvs 0 3 [5, 8, 11, 12, 13, 113, 115] hs (L' := [(5, .pointer (some ad6)), (8, .int .i64 y17), (11, .int .i64 (mnn y20 y23)), (12, .int .i64 (mxx y20 y23)), (13, .slice (some ad35) (((List.replicate (y17 : Int).toNat (eI .u32).d).set ((mnn y20 y23) : Int).toNat (wu32 (vx 0 a2 0))).set ((mxx y20 y23) : Int).toNat (wu32 (vx 0 a2 1))).length c29), (113, .slice (some ad72) (t49.set ((mxx y20 y23) : Int).toNat (bor .u32 (ix (eI .u32).d t49 (mxx y20 y23)) (wu32 (w64 ((mxx y20 y23) + 1))))).length c54), (115, .int .i64 (w64 ((mxx y20 y23) + 1)))]) (by kernel_rfl) ?_ rfl
    clear hs; intro a hs
    obtain ⟨⟨t78, t79, t80⟩, hx81, H⟩ := bind_some H
    refine go_call hs (op := (Op.call { callee := (Callee.value (Operand.func 24)), args := #[(Operand.tmp 113), (Operand.tmp 115)], argTypes := #[22, 3] })) (ty := 39) (dst := some 116) (g := none) (by kernel_rfl) (by kernel_rfl) (by kernel_rfl) (f := 24) (args := #[.slice (some ad72) (t49.set ((mxx y20 y23) : Int).toNat (bor .u32 (ix (eI .u32).d t49 (mxx y20 y23)) (wu32 (w64 ((mxx y20 y23) + 1))))).length c54, .int .i64 (w64 ((mxx y20 y23) + 1))]) (by kernel_rfl) (chain_Unpack.calls (some ad72) c54 (t49.set ((mxx y20 y23) : Int).toNat (bor .u32 (ix (eI .u32).d t49 (mxx y20 y23)) (wu32 (w64 ((mxx y20 y23) + 1))))) (w64 ((mxx y20 y23) + 1)) (t78, t79, t80) _ (Rd.of_own (hw.up 0)) hx81) ?_
    rintro e wd86 ⟨A82, c83, A84, c85, rfl, hw87⟩
    refine ⟨_, rfl, ?_⟩
    replace hw := hw.call hw87
    intro a hs1
    replace hs : Slots a 204 [(5, .pointer (some ad6)), (8, .int .i64 y17), (11, .int .i64 (mnn y20 y23)), (12, .int .i64 (mxx y20 y23)), (13, .slice (some ad35) (((List.replicate (y17 : Int).toNat (eI .u32).d).set ((mnn y20 y23) : Int).toNat (wu32 (vx 0 a2 0))).set ((mxx y20 y23) : Int).toNat (wu32 (vx 0 a2 1))).length c29), (116, .tuple #[.slice A82 t78.length c83, .slice A84 t79.length c85, .int .i64 t80])] := hs1.keep [5, 8, 11, 12, 13, 116] (by kernel_rfl)
    clear hs1
    refine go_pvs 4 11 [5, 8, 11, 12, 13, 19] hs (L' := [(5, .pointer (some ad6)), (8, .int .i64 y17), (11, .int .i64 (mnn y20 y23)), (12, .int .i64 (mxx y20 y23)), (13, .slice (some ad35) (((List.replicate (y17 : Int).toNat (eI .u32).d).set ((mnn y20 y23) : Int).toNat (wu32 (vx 0 a2 0))).set ((mxx y20 y23) : Int).toNat (wu32 (vx 0 a2 1))).length c29), (19, .int .i64 t80)]) (by kernel_rfl) ?_ rfl
    clear hs; intro a hs
    refine go_end (by kernel_rfl) ?_
    refine hK76 _ _ ?_
    refine go_seq_k fun K90 hK90 => ?_
    refine go_seq_k fun K91 hK91 => ?_
    refine go_region ?_
    refine go_pvs 0 3 [5, 8, 11, 12, 13, 19, 122] hs (L' := [(5, .pointer (some ad6)), (8, .int .i64 y17), (11, .int .i64 (mnn y20 y23)), (12, .int .i64 (mxx y20 y23)), (13, .slice (some ad35) (((List.replicate (y17 : Int).toNat (eI .u32).d).set ((mnn y20 y23) : Int).toNat (wu32 (vx 0 a2 0))).set ((mxx y20 y23) : Int).toNat (wu32 (vx 0 a2 1))).length c29), (19, .int .i64 t80), (122, .bool ((mnn y20 y23) == (mxx y20 y23)))]) (by kernel_rfl) ?_ rfl
    clear hs; intro a hs
    refine go_end (by kernel_rfl) ?_
    refine hK91 _ _ ?_
    refine go_cond hs ((mnn y20 y23) == (mxx y20 y23)) (by kernel_rfl) (fun hc => ?_) (fun hc => ?_)
    · replace H := ite_t H (beq_iff_eq.1 hc)
      have hb92 := hc
      rw [hb92] at hs
      refine go_seq_k fun K93 hK93 => ?_
      refine go_region ?_
      refine go_pvs 0 3 [19, 124, 125, 126] hs (L' := [(19, .int .i64 t80), (124, .slice (some ad35) (((List.replicate (y17 : Int).toNat (eI .u32).d).set ((mnn y20 y23) : Int).toNat (wu32 (vx 0 a2 0))).set ((mxx y20 y23) : Int).toNat (wu32 (vx 0 a2 1))).length c29), (125, .int .i64 (mxx y20 y23)), (126, .int .i64 (mnn y20 y23))]) (by kernel_rfl) ?_ rfl
      clear hs; intro a hs
      obtain ⟨A94, c95, wd96, hx97, hw⟩ := n_lit (P := Try.prog) (L := [(19, .int .i64 t80), (124, .slice (some ad35) (((List.replicate (y17 : Int).toNat (eI .u32).d).set ((mnn y20 y23) : Int).toNat (wu32 (vx 0 a2 0))).set ((mxx y20 y23) : Int).toNat (wu32 (vx 0 a2 1))).length c29), (125, .int .i64 (mxx y20 y23)), (126, .int .i64 (mnn y20 y23))]) (t := 35) (ty := 35) (T := 3) (len := 2) (parts := #[(0, (Operand.tmp 125)), (1, (Operand.tmp 126))]) (z := .int .i64 0) (bytes := 8) (cells := #[.int .i64 (mxx y20 y23), .int .i64 (mnn y20 y23)]) hw (eI .i64) ([mxx y20 y23, mnn y20 y23] : List Int) (by kernel_rfl) (by kernel_rfl) (by kernel_rfl) (by kernel_rfl) (by kernel_rfl) (by kernel_rfl) (by kernel_rfl)
      refine go_run hs (op := (Op.buildSlice 35 2 #[(0, (Operand.tmp 125)), (1, (Operand.tmp 126))])) (ty := 35) (dst := some 127) (g := none) (by kernel_rfl) (by kernel_rfl) (by kernel_rfl) hx97 [19, 124, 127] (L' := [(19, .int .i64 t80), (124, .slice (some ad35) (((List.replicate (y17 : Int).toNat (eI .u32).d).set ((mnn y20 y23) : Int).toNat (wu32 (vx 0 a2 0))).set ((mxx y20 y23) : Int).toNat (wu32 (vx 0 a2 1))).length c29), (127, .slice A94 ([mxx y20 y23, mnn y20 y23] : List Int).length c95)]) (by kernel_rfl) ?_
      clear hs; intro a hs
      obtain ⟨⟨t100, t101, t102⟩, hx103, H⟩ := bind_some H
      refine go_call hs (op := (Op.call { callee := (Callee.value (Operand.func 20)), args := #[(Operand.tmp 124), (Operand.tmp 127)], argTypes := #[22, 35] })) (ty := 36) (dst := some 128) (g := none) (by kernel_rfl) (by kernel_rfl) (by kernel_rfl) (f := 20) (args := #[.slice (some ad35) (((List.replicate (y17 : Int).toNat (eI .u32).d).set ((mnn y20 y23) : Int).toNat (wu32 (vx 0 a2 0))).set ((mxx y20 y23) : Int).toNat (wu32 (vx 0 a2 1))).length c29, .slice A94 ([mxx y20 y23, mnn y20 y23] : List Int).length c95]) (by kernel_rfl) (chain_Pack.calls (some ad35) c29 (((List.replicate (y17 : Int).toNat (eI .u32).d).set ((mnn y20 y23) : Int).toNat (wu32 (vx 0 a2 0))).set ((mxx y20 y23) : Int).toNat (wu32 (vx 0 a2 1))) A94 c95 ([mxx y20 y23, mnn y20 y23] : List Int) (t100, t101, t102) _ (Rd.of_own (hw.up 5)) (Rd.of_own (hw.up 0)) hx103) ?_
      rintro e wd106 ⟨A104, c105, rfl, hw107⟩
      refine ⟨_, rfl, ?_⟩
      replace hw := hw.call hw107
      intro a hs1
      replace hs : Slots a 204 [(19, .int .i64 t80), (128, .tuple #[.slice A104 t100.length c105, .int .i64 t101, .int .i64 t102])] := hs1.keep [19, 128] (by kernel_rfl)
      clear hs1
      refine go_pvs 5 12 [19, 22] hs (L' := [(19, .int .i64 t80), (22, .int .i64 t102)]) (by kernel_rfl) ?_ rfl
      clear hs; intro a hs
      refine go_end (by kernel_rfl) ?_
      refine hK93 _ _ ?_
      refine go_seq_k fun K109 hK109 => ?_
      have hJ3 : ∀ (v111 : Bool) (a : Act) (w : World), Slots a 204 [(6, .bool v111)] → St [] w0 w [own 23 (eI .u32) A104 c105 t100, own 3 (eI .i64) A94 c95 ([mxx y20 y23, mnn y20 y23] : List Int), own 23 (eI .u32) A82 c83 t78, own 3 (eI .i64) A84 c85 t79, own 23 (eI .u32) (some ad72) c54 (t49.set ((mxx y20 y23) : Int).toNat (bor .u32 (ix (eI .u32).d t49 (mxx y20 y23)) (wu32 (w64 ((mxx y20 y23) + 1))))), own 3 (eI .i64) A43 c44 ([mxx y20 y23] : List Int), own 23 (eI .u32) (some ad35) c29 (((List.replicate (y17 : Int).toNat (eI .u32).d).set ((mnn y20 y23) : Int).toNat (wu32 (vx 0 a2 0))).set ((mxx y20 y23) : Int).toNat (wu32 (vx 0 a2 1))), own 49 eA49 (some ad6) 1 [a2], own 47 eA47 (some ad2) 1 [a1]] → rivetlaw08_ChainOne.j3 v111 = some r → K109 a w := by
        intro v111 a w hs hw H
        unfold rivetlaw08_ChainOne.j3 at H
        refine hK109 _ _ ?_
        refine wp_ret ?_
        refine th_ret ?_
        obtain rfl := Option.some.inj H
        refine ret1 (t := 6) (v := .bool v111) hs (by kernel_rfl) (by kernel_rfl) ?_
        exact ⟨rfl, hw.only 0⟩
      refine go_region ?_
      refine go_pvs 0 3 [22, 134] hs (L' := [(22, .int .i64 t102), (134, .bool (t80 == 10))]) (by kernel_rfl) ?_ rfl
      clear hs; intro a hs
      cases hb110 : (t80 == 10)
      · replace H := ite_f H (beq_eq_false_iff_ne.1 hb110)
        rw [hb110] at hs
        refine go_pvs 3 7 [6] hs (L' := [(6, .bool false)]) (by kernel_rfl) ?_ rfl
        clear hs; intro a hs
        refine go_end (by kernel_rfl) ?_
        replace hw := hw.up 8
        replace hw := hw.up 8
        replace hw := hw.up 8
        replace hw := hw.up 8
        replace hw := hw.up 8
        replace hw := hw.up 8
        replace hw := hw.up 8
        replace hw := hw.up 8
        replace hw := hw.up 8
        replace hw := hw.only 9
        exact hJ3 false _ _ (hs.keep [6] (by kernel_rfl)) hw H
      · replace H := ite_t H (beq_iff_eq.1 hb110)
        rw [hb110] at hs
        refine go_pvs 3 7 [6] hs (L' := [(6, .bool (t102 == 7))]) (by kernel_rfl) ?_ rfl
        clear hs; intro a hs
        refine go_end (by kernel_rfl) ?_
        replace hw := hw.up 8
        replace hw := hw.up 8
        replace hw := hw.up 8
        replace hw := hw.up 8
        replace hw := hw.up 8
        replace hw := hw.up 8
        replace hw := hw.up 8
        replace hw := hw.up 8
        replace hw := hw.up 8
        replace hw := hw.only 9
        exact hJ3 (t102 == 7) _ _ (hs.keep [6] (by kernel_rfl)) hw H
    · replace H := ite_f H (beq_eq_false_iff_ne.1 hc)
      have hb112 := hc
      rw [hb112] at hs
      refine wp_skip ?_
      refine hK90 _ _ ?_
      refine go_seq_k fun K113 hK113 => ?_
      refine go_region ?_
      refine go_pvs 0 3 [5, 8, 11, 12, 13, 19, 139, 140, 141] hs (L' := [(5, .pointer (some ad6)), (8, .int .i64 y17), (11, .int .i64 (mnn y20 y23)), (12, .int .i64 (mxx y20 y23)), (13, .slice (some ad35) (((List.replicate (y17 : Int).toNat (eI .u32).d).set ((mnn y20 y23) : Int).toNat (wu32 (vx 0 a2 0))).set ((mxx y20 y23) : Int).toNat (wu32 (vx 0 a2 1))).length c29), (19, .int .i64 t80), (139, .slice (some ad35) (((List.replicate (y17 : Int).toNat (eI .u32).d).set ((mnn y20 y23) : Int).toNat (wu32 (vx 0 a2 0))).set ((mxx y20 y23) : Int).toNat (wu32 (vx 0 a2 1))).length c29), (140, .int .i64 (mnn y20 y23)), (141, .int .i64 (mxx y20 y23))]) (by kernel_rfl) ?_ rfl
      clear hs; intro a hs
      obtain ⟨A114, c115, wd116, hx117, hw⟩ := n_lit (P := Try.prog) (L := [(5, .pointer (some ad6)), (8, .int .i64 y17), (11, .int .i64 (mnn y20 y23)), (12, .int .i64 (mxx y20 y23)), (13, .slice (some ad35) (((List.replicate (y17 : Int).toNat (eI .u32).d).set ((mnn y20 y23) : Int).toNat (wu32 (vx 0 a2 0))).set ((mxx y20 y23) : Int).toNat (wu32 (vx 0 a2 1))).length c29), (19, .int .i64 t80), (139, .slice (some ad35) (((List.replicate (y17 : Int).toNat (eI .u32).d).set ((mnn y20 y23) : Int).toNat (wu32 (vx 0 a2 0))).set ((mxx y20 y23) : Int).toNat (wu32 (vx 0 a2 1))).length c29), (140, .int .i64 (mnn y20 y23)), (141, .int .i64 (mxx y20 y23))]) (t := 35) (ty := 35) (T := 3) (len := 2) (parts := #[(0, (Operand.tmp 140)), (1, (Operand.tmp 141))]) (z := .int .i64 0) (bytes := 8) (cells := #[.int .i64 (mnn y20 y23), .int .i64 (mxx y20 y23)]) hw (eI .i64) ([mnn y20 y23, mxx y20 y23] : List Int) (by kernel_rfl) (by kernel_rfl) (by kernel_rfl) (by kernel_rfl) (by kernel_rfl) (by kernel_rfl) (by kernel_rfl)
      refine go_run hs (op := (Op.buildSlice 35 2 #[(0, (Operand.tmp 140)), (1, (Operand.tmp 141))])) (ty := 35) (dst := some 142) (g := none) (by kernel_rfl) (by kernel_rfl) (by kernel_rfl) hx117 [5, 8, 11, 12, 13, 19, 139, 142] (L' := [(5, .pointer (some ad6)), (8, .int .i64 y17), (11, .int .i64 (mnn y20 y23)), (12, .int .i64 (mxx y20 y23)), (13, .slice (some ad35) (((List.replicate (y17 : Int).toNat (eI .u32).d).set ((mnn y20 y23) : Int).toNat (wu32 (vx 0 a2 0))).set ((mxx y20 y23) : Int).toNat (wu32 (vx 0 a2 1))).length c29), (19, .int .i64 t80), (139, .slice (some ad35) (((List.replicate (y17 : Int).toNat (eI .u32).d).set ((mnn y20 y23) : Int).toNat (wu32 (vx 0 a2 0))).set ((mxx y20 y23) : Int).toNat (wu32 (vx 0 a2 1))).length c29), (142, .slice A114 ([mnn y20 y23, mxx y20 y23] : List Int).length c115)]) (by kernel_rfl) ?_
      clear hs; intro a hs
      obtain ⟨⟨t120, t121, t122⟩, hx123, H⟩ := bind_some H
      refine go_call hs (op := (Op.call { callee := (Callee.value (Operand.func 20)), args := #[(Operand.tmp 139), (Operand.tmp 142)], argTypes := #[22, 35] })) (ty := 36) (dst := some 143) (g := none) (by kernel_rfl) (by kernel_rfl) (by kernel_rfl) (f := 20) (args := #[.slice (some ad35) (((List.replicate (y17 : Int).toNat (eI .u32).d).set ((mnn y20 y23) : Int).toNat (wu32 (vx 0 a2 0))).set ((mxx y20 y23) : Int).toNat (wu32 (vx 0 a2 1))).length c29, .slice A114 ([mnn y20 y23, mxx y20 y23] : List Int).length c115]) (by kernel_rfl) (chain_Pack.calls (some ad35) c29 (((List.replicate (y17 : Int).toNat (eI .u32).d).set ((mnn y20 y23) : Int).toNat (wu32 (vx 0 a2 0))).set ((mxx y20 y23) : Int).toNat (wu32 (vx 0 a2 1))) A114 c115 ([mnn y20 y23, mxx y20 y23] : List Int) (t120, t121, t122) _ (Rd.of_own (hw.up 5)) (Rd.of_own (hw.up 0)) hx123) ?_
      rintro e wd126 ⟨A124, c125, rfl, hw127⟩
      refine ⟨_, rfl, ?_⟩
      replace hw := hw.call hw127
      intro a hs1
      replace hs : Slots a 204 [(5, .pointer (some ad6)), (8, .int .i64 y17), (11, .int .i64 (mnn y20 y23)), (12, .int .i64 (mxx y20 y23)), (13, .slice (some ad35) (((List.replicate (y17 : Int).toNat (eI .u32).d).set ((mnn y20 y23) : Int).toNat (wu32 (vx 0 a2 0))).set ((mxx y20 y23) : Int).toNat (wu32 (vx 0 a2 1))).length c29), (19, .int .i64 t80), (143, .tuple #[.slice A124 t120.length c125, .int .i64 t121, .int .i64 t122])] := hs1.keep [5, 8, 11, 12, 13, 19, 143] (by kernel_rfl)
      clear hs1
      refine go_pvs 5 12 [5, 8, 11, 12, 13, 19, 23, 24, 25] hs (L' := [(5, .pointer (some ad6)), (8, .int .i64 y17), (11, .int .i64 (mnn y20 y23)), (12, .int .i64 (mxx y20 y23)), (13, .slice (some ad35) (((List.replicate (y17 : Int).toNat (eI .u32).d).set ((mnn y20 y23) : Int).toNat (wu32 (vx 0 a2 0))).set ((mxx y20 y23) : Int).toNat (wu32 (vx 0 a2 1))).length c29), (19, .int .i64 t80), (23, .slice A124 t120.length c125), (24, .int .i64 t121), (25, .int .i64 t122)]) (by kernel_rfl) ?_ rfl
      clear hs; intro a hs
      refine go_end (by kernel_rfl) ?_
      refine hK113 _ _ ?_
      refine go_seq_k fun K129 hK129 => ?_
      refine go_region ?_
      refine go_pvs 0 3 [5, 8, 11, 12, 19, 23, 24, 25, 148, 149, 150] hs (L' := [(5, .pointer (some ad6)), (8, .int .i64 y17), (11, .int .i64 (mnn y20 y23)), (12, .int .i64 (mxx y20 y23)), (19, .int .i64 t80), (23, .slice A124 t120.length c125), (24, .int .i64 t121), (25, .int .i64 t122), (148, .slice (some ad35) (((List.replicate (y17 : Int).toNat (eI .u32).d).set ((mnn y20 y23) : Int).toNat (wu32 (vx 0 a2 0))).set ((mxx y20 y23) : Int).toNat (wu32 (vx 0 a2 1))).length c29), (149, .int .i64 (mxx y20 y23)), (150, .int .i64 (mnn y20 y23))]) (by kernel_rfl) ?_ rfl
      clear hs; intro a hs
      obtain ⟨A130, c131, wd132, hx133, hw⟩ := n_lit (P := Try.prog) (L := [(5, .pointer (some ad6)), (8, .int .i64 y17), (11, .int .i64 (mnn y20 y23)), (12, .int .i64 (mxx y20 y23)), (19, .int .i64 t80), (23, .slice A124 t120.length c125), (24, .int .i64 t121), (25, .int .i64 t122), (148, .slice (some ad35) (((List.replicate (y17 : Int).toNat (eI .u32).d).set ((mnn y20 y23) : Int).toNat (wu32 (vx 0 a2 0))).set ((mxx y20 y23) : Int).toNat (wu32 (vx 0 a2 1))).length c29), (149, .int .i64 (mxx y20 y23)), (150, .int .i64 (mnn y20 y23))]) (t := 35) (ty := 35) (T := 3) (len := 2) (parts := #[(0, (Operand.tmp 149)), (1, (Operand.tmp 150))]) (z := .int .i64 0) (bytes := 8) (cells := #[.int .i64 (mxx y20 y23), .int .i64 (mnn y20 y23)]) hw (eI .i64) ([mxx y20 y23, mnn y20 y23] : List Int) (by kernel_rfl) (by kernel_rfl) (by kernel_rfl) (by kernel_rfl) (by kernel_rfl) (by kernel_rfl) (by kernel_rfl)
      refine go_run hs (op := (Op.buildSlice 35 2 #[(0, (Operand.tmp 149)), (1, (Operand.tmp 150))])) (ty := 35) (dst := some 151) (g := none) (by kernel_rfl) (by kernel_rfl) (by kernel_rfl) hx133 [5, 8, 11, 12, 19, 23, 24, 25, 148, 151] (L' := [(5, .pointer (some ad6)), (8, .int .i64 y17), (11, .int .i64 (mnn y20 y23)), (12, .int .i64 (mxx y20 y23)), (19, .int .i64 t80), (23, .slice A124 t120.length c125), (24, .int .i64 t121), (25, .int .i64 t122), (148, .slice (some ad35) (((List.replicate (y17 : Int).toNat (eI .u32).d).set ((mnn y20 y23) : Int).toNat (wu32 (vx 0 a2 0))).set ((mxx y20 y23) : Int).toNat (wu32 (vx 0 a2 1))).length c29), (151, .slice A130 ([mxx y20 y23, mnn y20 y23] : List Int).length c131)]) (by kernel_rfl) ?_
      clear hs; intro a hs
      obtain ⟨⟨t136, t137, t138⟩, hx139, H⟩ := bind_some H
      refine go_call hs (op := (Op.call { callee := (Callee.value (Operand.func 20)), args := #[(Operand.tmp 148), (Operand.tmp 151)], argTypes := #[22, 35] })) (ty := 36) (dst := some 152) (g := none) (by kernel_rfl) (by kernel_rfl) (by kernel_rfl) (f := 20) (args := #[.slice (some ad35) (((List.replicate (y17 : Int).toNat (eI .u32).d).set ((mnn y20 y23) : Int).toNat (wu32 (vx 0 a2 0))).set ((mxx y20 y23) : Int).toNat (wu32 (vx 0 a2 1))).length c29, .slice A130 ([mxx y20 y23, mnn y20 y23] : List Int).length c131]) (by kernel_rfl) (chain_Pack.calls (some ad35) c29 (((List.replicate (y17 : Int).toNat (eI .u32).d).set ((mnn y20 y23) : Int).toNat (wu32 (vx 0 a2 0))).set ((mxx y20 y23) : Int).toNat (wu32 (vx 0 a2 1))) A130 c131 ([mxx y20 y23, mnn y20 y23] : List Int) (t136, t137, t138) _ (Rd.of_own (hw.up 7)) (Rd.of_own (hw.up 0)) hx139) ?_
      rintro e wd142 ⟨A140, c141, rfl, hw143⟩
      refine ⟨_, rfl, ?_⟩
      replace hw := hw.call hw143
      intro a hs1
      replace hs : Slots a 204 [(5, .pointer (some ad6)), (8, .int .i64 y17), (11, .int .i64 (mnn y20 y23)), (12, .int .i64 (mxx y20 y23)), (19, .int .i64 t80), (23, .slice A124 t120.length c125), (24, .int .i64 t121), (25, .int .i64 t122), (152, .tuple #[.slice A140 t136.length c141, .int .i64 t137, .int .i64 t138])] := hs1.keep [5, 8, 11, 12, 19, 23, 24, 25, 152] (by kernel_rfl)
      clear hs1
      refine go_pvs 5 12 [5, 8, 11, 12, 19, 23, 24, 25, 28] hs (L' := [(5, .pointer (some ad6)), (8, .int .i64 y17), (11, .int .i64 (mnn y20 y23)), (12, .int .i64 (mxx y20 y23)), (19, .int .i64 t80), (23, .slice A124 t120.length c125), (24, .int .i64 t121), (25, .int .i64 t122), (28, .int .i64 t138)]) (by kernel_rfl) ?_ rfl
      clear hs; intro a hs
      refine go_end (by kernel_rfl) ?_
      refine hK129 _ _ ?_
      refine go_seq_k fun K145 hK145 => ?_
      have hJ4 : ∀ (v155 : Bool) (a : Act) (w : World), Slots a 204 [(6, .bool v155)] → St [] w0 w [own 23 (eI .u32) A140 c141 t136, own 3 (eI .i64) A130 c131 ([mxx y20 y23, mnn y20 y23] : List Int), own 23 (eI .u32) A124 c125 t120, own 3 (eI .i64) A114 c115 ([mnn y20 y23, mxx y20 y23] : List Int), own 23 (eI .u32) A82 c83 t78, own 3 (eI .i64) A84 c85 t79, own 23 (eI .u32) (some ad72) c54 (t49.set ((mxx y20 y23) : Int).toNat (bor .u32 (ix (eI .u32).d t49 (mxx y20 y23)) (wu32 (w64 ((mxx y20 y23) + 1))))), own 3 (eI .i64) A43 c44 ([mxx y20 y23] : List Int), own 23 (eI .u32) (some ad35) c29 (((List.replicate (y17 : Int).toNat (eI .u32).d).set ((mnn y20 y23) : Int).toNat (wu32 (vx 0 a2 0))).set ((mxx y20 y23) : Int).toNat (wu32 (vx 0 a2 1))), own 49 eA49 (some ad6) 1 [a2], own 47 eA47 (some ad2) 1 [a1]] → rivetlaw08_ChainOne.j4 v155 = some r → K145 a w := by
        intro v155 a w hs hw H
        unfold rivetlaw08_ChainOne.j4 at H
        refine hK145 _ _ ?_
        refine wp_ret ?_
        obtain rfl := Option.some.inj H
        refine ret1 (t := 6) (v := .bool v155) hs (by kernel_rfl) (by kernel_rfl) ?_
        exact ⟨rfl, hw.only 0⟩
      refine q_region (by kernel_rfl) (by kernel_rfl) ?_
      refine q_pvs 0 3 [5, 8, 11, 12, 23, 24, 25, 28, 158] hs (L' := [(5, .pointer (some ad6)), (8, .int .i64 y17), (11, .int .i64 (mnn y20 y23)), (12, .int .i64 (mxx y20 y23)), (23, .slice A124 t120.length c125), (24, .int .i64 t121), (25, .int .i64 t122), (28, .int .i64 t138), (158, .bool (t80 == 10))]) (by kernel_rfl) ?_ rfl
      clear hs; intro a hs
      cases hb146 : (t80 == 10)
      · replace H := ite_f H (beq_eq_false_iff_ne.1 hb146)
        rw [hb146] at hs
        refine q_pvs 3 49 [6] hs (L' := [(6, .bool false)]) (by kernel_rfl) ?_ rfl
        clear hs; intro a hs
        refine q_end (by kernel_rfl) ?_
        intro wq hbq
        replace hw := hw.behind hbq
        replace hw := hw.up 10
        replace hw := hw.up 10
        replace hw := hw.up 10
        replace hw := hw.up 10
        replace hw := hw.up 10
        replace hw := hw.up 10
        replace hw := hw.up 10
        replace hw := hw.up 10
        replace hw := hw.up 10
        replace hw := hw.up 10
        replace hw := hw.up 10
        replace hw := hw.only 11
        exact hJ4 false _ _ (hs.keep [6] (by kernel_rfl)) hw H
      · replace H := ite_t H (beq_iff_eq.1 hb146)
        rw [hb146] at hs
        refine q_pvs 3 7 [5, 8, 11, 12, 23, 24, 28, 162] hs (L' := [(5, .pointer (some ad6)), (8, .int .i64 y17), (11, .int .i64 (mnn y20 y23)), (12, .int .i64 (mxx y20 y23)), (23, .slice A124 t120.length c125), (24, .int .i64 t121), (28, .int .i64 t138), (162, .bool (t122 == 0))]) (by kernel_rfl) ?_ rfl
        clear hs; intro a hs
        cases hb147 : (t122 == 0)
        · replace H := ite_f H (beq_eq_false_iff_ne.1 hb147)
          rw [hb147] at hs
          refine q_pvs 7 49 [6] hs (L' := [(6, .bool false)]) (by kernel_rfl) ?_ rfl
          clear hs; intro a hs
          refine q_end (by kernel_rfl) ?_
          intro wq hbq
          replace hw := hw.behind hbq
          replace hw := hw.up 10
          replace hw := hw.up 10
          replace hw := hw.up 10
          replace hw := hw.up 10
          replace hw := hw.up 10
          replace hw := hw.up 10
          replace hw := hw.up 10
          replace hw := hw.up 10
          replace hw := hw.up 10
          replace hw := hw.up 10
          replace hw := hw.up 10
          replace hw := hw.only 11
          exact hJ4 false _ _ (hs.keep [6] (by kernel_rfl)) hw H
        · replace H := ite_t H (beq_iff_eq.1 hb147)
          rw [hb147] at hs
          refine q_pvs 7 13 [5, 8, 11, 12, 23, 28, 168] hs (L' := [(5, .pointer (some ad6)), (8, .int .i64 y17), (11, .int .i64 (mnn y20 y23)), (12, .int .i64 (mxx y20 y23)), (23, .slice A124 t120.length c125), (28, .int .i64 t138), (168, .bool (t121 == (w64 ((mxx y20 y23) + 1))))]) (by kernel_rfl) ?_ rfl
          clear hs; intro a hs
          cases hb148 : (t121 == (w64 ((mxx y20 y23) + 1)))
          · replace H := ite_f H (beq_eq_false_iff_ne.1 hb148)
            rw [hb148] at hs
            refine q_pvs 13 49 [6] hs (L' := [(6, .bool false)]) (by kernel_rfl) ?_ rfl
            clear hs; intro a hs
            refine q_end (by kernel_rfl) ?_
            intro wq hbq
            replace hw := hw.behind hbq
            replace hw := hw.up 10
            replace hw := hw.up 10
            replace hw := hw.up 10
            replace hw := hw.up 10
            replace hw := hw.up 10
            replace hw := hw.up 10
            replace hw := hw.up 10
            replace hw := hw.up 10
            replace hw := hw.up 10
            replace hw := hw.up 10
            replace hw := hw.up 10
            replace hw := hw.only 11
            exact hJ4 false _ _ (hs.keep [6] (by kernel_rfl)) hw H
          · replace H := ite_t H (beq_iff_eq.1 hb148)
            rw [hb148] at hs
            refine q_pvs 13 19 [5, 11, 12, 23, 28, 174] hs (L' := [(5, .pointer (some ad6)), (11, .int .i64 (mnn y20 y23)), (12, .int .i64 (mxx y20 y23)), (23, .slice A124 t120.length c125), (28, .int .i64 t138), (174, .bool ((t120.length : Int) == y17))]) (by kernel_rfl) ?_ rfl
            clear hs; intro a hs
            cases hb149 : ((t120.length : Int) == y17)
            · replace H := ite_f H (beq_eq_false_iff_ne.1 hb149)
              rw [hb149] at hs
              refine q_pvs 19 49 [6] hs (L' := [(6, .bool false)]) (by kernel_rfl) ?_ rfl
              clear hs; intro a hs
              refine q_end (by kernel_rfl) ?_
              intro wq hbq
              replace hw := hw.behind hbq
              replace hw := hw.up 10
              replace hw := hw.up 10
              replace hw := hw.up 10
              replace hw := hw.up 10
              replace hw := hw.up 10
              replace hw := hw.up 10
              replace hw := hw.up 10
              replace hw := hw.up 10
              replace hw := hw.up 10
              replace hw := hw.up 10
              replace hw := hw.up 10
              replace hw := hw.only 11
              exact hJ4 false _ _ (hs.keep [6] (by kernel_rfl)) hw H
            · replace H := ite_t H (beq_iff_eq.1 hb149)
              rw [hb149] at hs
              refine q_pvs 19 21 [5, 11, 23, 28, 174, 175, 176] hs (L' := [(5, .pointer (some ad6)), (11, .int .i64 (mnn y20 y23)), (23, .slice A124 t120.length c125), (28, .int .i64 t138), (174, .bool true), (175, .slice A124 t120.length c125), (176, .int .i64 (mxx y20 y23))]) (by kernel_rfl) ?_ rfl
              clear hs; intro a hs
              obtain ⟨hp150, H⟩ := ite_only H
              obtain ⟨ad151, rfl⟩ := (Rd.of_own (hw.up 2)).some hp150.1 hp150.2
              refine q_run hs (op := (Op.indexAddr 22 (Operand.tmp 175) (Operand.tmp 176))) (ty := 0) (dst := some 177) (g := some (18, true)) (by kernel_rfl) (by kernel_rfl) (by kernel_rfl) (fun wx hbx => (x_idx (T := 23) (sz := 1) (a := ad151) (n := t120.length) (cap := c125) (k := .i64) (i := (mxx y20 y23)) (by kernel_rfl) (by kernel_rfl) (by kernel_rfl) (by kernel_rfl) hp150.1 hp150.2)) [5, 11, 23, 28, 174, 177] (L' := [(5, .pointer (some ad6)), (11, .int .i64 (mnn y20 y23)), (23, .slice (some ad151) t120.length c125), (28, .int .i64 t138), (174, .bool true), (177, .pointer (some (ad151.add ((mxx y20 y23).toNat * 1))))]) (by kernel_rfl) ?_
              clear hs; intro a hs
              refine q_run hs (op := (Op.load 23 (Operand.tmp 177))) (ty := 23) (dst := some 178) (g := some (18, true)) (by kernel_rfl) (by kernel_rfl) (by kernel_rfl) (fun wx hbx => (x_ld (E := (eI .u32)) (off := 0) (p := ad151.add ((mxx y20 y23).toNat * 1)) (v := .int .u32 (ix (eI .u32).d t120 (mxx y20 y23))) ((Rd.of_own (hw.up 2)).below hbx) hp150.1 hp150.2 (by kernel_rfl) rfl (by kernel_rfl) (by kernel_rfl))) [5, 11, 23, 28, 174, 178] (L' := [(5, .pointer (some ad6)), (11, .int .i64 (mnn y20 y23)), (23, .slice (some ad151) t120.length c125), (28, .int .i64 t138), (174, .bool true), (178, .int .u32 (ix (eI .u32).d t120 (mxx y20 y23)))]) (by kernel_rfl) ?_
              clear hs; intro a hs
              refine q_run hs (op := (Op.indexAddr 49 (Operand.tmp 5) (Operand.const (Value.int IntKind.i64 1)))) (ty := 0) (dst := some 179) (g := some (18, true)) (by kernel_rfl) (by kernel_rfl) (by kernel_rfl) (fun wx hbx => (x_vidx (e := 48) (p := ad6) (n := 2) (k := .i64) (i := 1) (sz := 1) (by kernel_rfl) (by kernel_rfl) (by kernel_rfl) (by kernel_rfl) (⟨by decide, by decide⟩ : (0 : Int) ≤ 1 ∧ (1 : Int) < ((2 : Nat) : Int)).1 (⟨by decide, by decide⟩ : (0 : Int) ≤ 1 ∧ (1 : Int) < ((2 : Nat) : Int)).2)) [5, 11, 23, 28, 174, 178, 179] (L' := [(5, .pointer (some ad6)), (11, .int .i64 (mnn y20 y23)), (23, .slice (some ad151) t120.length c125), (28, .int .i64 t138), (174, .bool true), (178, .int .u32 (ix (eI .u32).d t120 (mxx y20 y23))), (179, .pointer (some ((ad6 : Addr).add ((1 : Int).toNat * 1))))]) (by kernel_rfl) ?_
              clear hs; intro a hs
              refine q_run hs (op := (Op.load 48 (Operand.tmp 179))) (ty := 48) (dst := some 180) (g := some (18, true)) (by kernel_rfl) (by kernel_rfl) (by kernel_rfl) (fun wx hbx => (x_ld (E := eA49) (off := 1) (p := (ad6 : Addr).add ((1 : Int).toNat * 1)) (v := .int .u16 (vx 0 a2 1)) ((Rd.of_own (hw.up 9)).below hbx) (one_ok a2).1 (one_ok a2).2 (by kernel_rfl) (by simp only [add_add', Int.toNat_zero, Nat.zero_mul, Nat.zero_add, Nat.mul_one] <;> rfl) (by kernel_rfl) (by kernel_rfl))) [5, 11, 23, 28, 174, 178, 180] (L' := [(5, .pointer (some ad6)), (11, .int .i64 (mnn y20 y23)), (23, .slice (some ad151) t120.length c125), (28, .int .i64 t138), (174, .bool true), (178, .int .u32 (ix (eI .u32).d t120 (mxx y20 y23))), (180, .int .u16 (vx 0 a2 1))]) (by kernel_rfl) ?_
              clear hs; intro a hs
              refine q_pvs 25 34 [5, 11, 23, 28, 189] hs (L' := [(5, .pointer (some ad6)), (11, .int .i64 (mnn y20 y23)), (23, .slice (some ad151) t120.length c125), (28, .int .i64 t138), (189, .bool ((ix (eI .u32).d t120 (mxx y20 y23)) == (bor .u32 (wu32 ((wu32 (vx 0 a2 1)) * 2 ^ 16)) (wu32 (w64 ((mnn y20 y23) + 1))))))]) (by kernel_rfl) ?_ rfl
              clear hs; intro a hs
              cases hb152 : ((ix (eI .u32).d t120 (mxx y20 y23)) == (bor .u32 (wu32 ((wu32 (vx 0 a2 1)) * 2 ^ 16)) (wu32 (w64 ((mnn y20 y23) + 1)))))
              · replace H := ite_f H (beq_eq_false_iff_ne.1 hb152)
                rw [hb152] at hs
                refine q_pvs 34 49 [6] hs (L' := [(6, .bool false)]) (by kernel_rfl) ?_ rfl
                clear hs; intro a hs
                refine q_end (by kernel_rfl) ?_
                intro wq hbq
                replace hw := hw.behind hbq
                replace hw := hw.up 10
                replace hw := hw.up 10
                replace hw := hw.up 10
                replace hw := hw.up 10
                replace hw := hw.up 10
                replace hw := hw.up 10
                replace hw := hw.up 10
                replace hw := hw.up 10
                replace hw := hw.up 10
                replace hw := hw.up 10
                replace hw := hw.up 10
                replace hw := hw.only 11
                exact hJ4 false _ _ (hs.keep [6] (by kernel_rfl)) hw H
              · replace H := ite_t H (beq_iff_eq.1 hb152)
                rw [hb152] at hs
                refine q_pvs 34 36 [5, 28, 189, 190, 191] hs (L' := [(5, .pointer (some ad6)), (28, .int .i64 t138), (189, .bool true), (190, .slice (some ad151) t120.length c125), (191, .int .i64 (mnn y20 y23))]) (by kernel_rfl) ?_ rfl
                clear hs; intro a hs
                obtain ⟨hp153, H⟩ := ite_only H
                refine q_run hs (op := (Op.indexAddr 22 (Operand.tmp 190) (Operand.tmp 191))) (ty := 0) (dst := some 192) (g := some (33, true)) (by kernel_rfl) (by kernel_rfl) (by kernel_rfl) (fun wx hbx => (x_idx (T := 23) (sz := 1) (a := ad151) (n := t120.length) (cap := c125) (k := .i64) (i := (mnn y20 y23)) (by kernel_rfl) (by kernel_rfl) (by kernel_rfl) (by kernel_rfl) hp153.1 hp153.2)) [5, 28, 189, 192] (L' := [(5, .pointer (some ad6)), (28, .int .i64 t138), (189, .bool true), (192, .pointer (some (ad151.add ((mnn y20 y23).toNat * 1))))]) (by kernel_rfl) ?_
                clear hs; intro a hs
                refine q_run hs (op := (Op.load 23 (Operand.tmp 192))) (ty := 23) (dst := some 193) (g := some (33, true)) (by kernel_rfl) (by kernel_rfl) (by kernel_rfl) (fun wx hbx => (x_ld (E := (eI .u32)) (off := 0) (p := ad151.add ((mnn y20 y23).toNat * 1)) (v := .int .u32 (ix (eI .u32).d t120 (mnn y20 y23))) ((Rd.of_own (hw.up 2)).below hbx) hp153.1 hp153.2 (by kernel_rfl) rfl (by kernel_rfl) (by kernel_rfl))) [5, 28, 189, 193] (L' := [(5, .pointer (some ad6)), (28, .int .i64 t138), (189, .bool true), (193, .int .u32 (ix (eI .u32).d t120 (mnn y20 y23)))]) (by kernel_rfl) ?_
                clear hs; intro a hs
                refine q_run hs (op := (Op.indexAddr 49 (Operand.tmp 5) (Operand.const (Value.int IntKind.i64 0)))) (ty := 0) (dst := some 194) (g := some (33, true)) (by kernel_rfl) (by kernel_rfl) (by kernel_rfl) (fun wx hbx => (x_vidx (e := 48) (p := ad6) (n := 2) (k := .i64) (i := 0) (sz := 1) (by kernel_rfl) (by kernel_rfl) (by kernel_rfl) (by kernel_rfl) (⟨by decide, by decide⟩ : (0 : Int) ≤ 0 ∧ (0 : Int) < ((2 : Nat) : Int)).1 (⟨by decide, by decide⟩ : (0 : Int) ≤ 0 ∧ (0 : Int) < ((2 : Nat) : Int)).2)) [28, 189, 193, 194] (L' := [(28, .int .i64 t138), (189, .bool true), (193, .int .u32 (ix (eI .u32).d t120 (mnn y20 y23))), (194, .pointer (some ((ad6 : Addr).add ((0 : Int).toNat * 1))))]) (by kernel_rfl) ?_
                clear hs; intro a hs
                refine q_run hs (op := (Op.load 48 (Operand.tmp 194))) (ty := 48) (dst := some 195) (g := some (33, true)) (by kernel_rfl) (by kernel_rfl) (by kernel_rfl) (fun wx hbx => (x_ld (E := eA49) (off := 0) (p := (ad6 : Addr).add ((0 : Int).toNat * 1)) (v := .int .u16 (vx 0 a2 0)) ((Rd.of_own (hw.up 9)).below hbx) (one_ok a2).1 (one_ok a2).2 (by kernel_rfl) (by simp only [add_add', Int.toNat_zero, Nat.zero_mul, Nat.zero_add, Nat.mul_one] <;> rfl) (by kernel_rfl) (by kernel_rfl))) [28, 189, 193, 195] (L' := [(28, .int .i64 t138), (189, .bool true), (193, .int .u32 (ix (eI .u32).d t120 (mnn y20 y23))), (195, .int .u16 (vx 0 a2 0))]) (by kernel_rfl) ?_
                clear hs; intro a hs
                refine q_pvs 40 45 [28, 200] hs (L' := [(28, .int .i64 t138), (200, .bool ((ix (eI .u32).d t120 (mnn y20 y23)) == (wu32 ((wu32 (vx 0 a2 0)) * 2 ^ 16))))]) (by kernel_rfl) ?_ rfl
                clear hs; intro a hs
                cases hb154 : ((ix (eI .u32).d t120 (mnn y20 y23)) == (wu32 ((wu32 (vx 0 a2 0)) * 2 ^ 16)))
                · replace H := ite_f H (beq_eq_false_iff_ne.1 hb154)
                  rw [hb154] at hs
                  refine q_pvs 45 49 [6] hs (L' := [(6, .bool false)]) (by kernel_rfl) ?_ rfl
                  clear hs; intro a hs
                  refine q_end (by kernel_rfl) ?_
                  intro wq hbq
                  replace hw := hw.behind hbq
                  replace hw := hw.up 10
                  replace hw := hw.up 10
                  replace hw := hw.up 10
                  replace hw := hw.up 10
                  replace hw := hw.up 10
                  replace hw := hw.up 10
                  replace hw := hw.up 10
                  replace hw := hw.up 10
                  replace hw := hw.up 10
                  replace hw := hw.up 10
                  replace hw := hw.up 10
                  replace hw := hw.only 11
                  exact hJ4 false _ _ (hs.keep [6] (by kernel_rfl)) hw H
                · replace H := ite_t H (beq_iff_eq.1 hb154)
                  rw [hb154] at hs
                  refine q_pvs 45 49 [6] hs (L' := [(6, .bool (t138 == 7))]) (by kernel_rfl) ?_ rfl
                  clear hs; intro a hs
                  refine q_end (by kernel_rfl) ?_
                  intro wq hbq
                  replace hw := hw.behind hbq
                  replace hw := hw.up 10
                  replace hw := hw.up 10
                  replace hw := hw.up 10
                  replace hw := hw.up 10
                  replace hw := hw.up 10
                  replace hw := hw.up 10
                  replace hw := hw.up 10
                  replace hw := hw.up 10
                  replace hw := hw.up 10
                  replace hw := hw.up 10
                  replace hw := hw.up 10
                  replace hw := hw.only 11
                  exact hJ4 (t138 == 7) _ _ (hs.keep [6] (by kernel_rfl)) hw H
  refine go_seq_k fun K59 hK59 => ?_
  have hJ1 : ∀ (v66 : Bool) (a : Act) (w : World), Slots a 204 [(5, .pointer (some ad6)), (8, .int .i64 y17), (11, .int .i64 (mnn y20 y23)), (12, .int .i64 (mxx y20 y23)), (13, .slice (some ad35) (((List.replicate (y17 : Int).toNat (eI .u32).d).set ((mnn y20 y23) : Int).toNat (wu32 (vx 0 a2 0))).set ((mxx y20 y23) : Int).toNat (wu32 (vx 0 a2 1))).length c29), (14, .slice A53 t49.length c54), (100, .bool v66)] → St [] w0 w [own 23 (eI .u32) A53 c54 t49, own 3 (eI .i64) A43 c44 ([mxx y20 y23] : List Int), own 23 (eI .u32) (some ad35) c29 (((List.replicate (y17 : Int).toNat (eI .u32).d).set ((mnn y20 y23) : Int).toNat (wu32 (vx 0 a2 0))).set ((mxx y20 y23) : Int).toNat (wu32 (vx 0 a2 1))), own 49 eA49 (some ad6) 1 [a2], own 47 eA47 (some ad2) 1 [a1]] → rivetlaw08_ChainOne.j1 y20 y23 t49 y17 a2 v66 = some r → K59 a w := by
    intro v66 a w hs hw H
    unfold rivetlaw08_ChainOne.j1 at H
    refine hK59 _ _ ?_
    refine go_cond hs v66 (by kernel_rfl) (fun hc => ?_) (fun hc => ?_)
    · replace H := ite_t H hc
      have hb67 := hc
      rw [hb67] at hs
      refine go_seq_k fun K68 hK68 => ?_
      refine go_region ?_
      refine go_pvs 0 1 [6] hs (L' := [(6, .bool false)]) (by kernel_rfl) ?_ rfl
      clear hs; intro a hs
      refine go_end (by kernel_rfl) ?_
      refine hK68 _ _ ?_
      refine wp_ret ?_
      refine th_ret ?_
      obtain rfl := Option.some.inj H
      refine ret1 (t := 6) (v := .bool false) hs (by kernel_rfl) (by kernel_rfl) ?_
      exact ⟨rfl, hw.only 0⟩
    · replace H := ite_f H (ff hc)
      have hb69 := hc
      rw [hb69] at hs
      refine wp_skip ?_
      replace hw := hw.up 4
      replace hw := hw.up 4
      replace hw := hw.up 4
      replace hw := hw.up 4
      replace hw := hw.up 4
      replace hw := hw.only 5
      exact hJ2 _ _ (hs.keep [5, 8, 11, 12, 13, 14] (by kernel_rfl)) hw H
  refine q_region (by kernel_rfl) (by kernel_rfl) ?_
  refine q_pvs 0 3 [5, 8, 11, 12, 13, 14, 15, 16, 74] hs (L' := [(5, .pointer (some ad6)), (8, .int .i64 y17), (11, .int .i64 (mnn y20 y23)), (12, .int .i64 (mxx y20 y23)), (13, .slice (some ad35) (((List.replicate (y17 : Int).toNat (eI .u32).d).set ((mnn y20 y23) : Int).toNat (wu32 (vx 0 a2 0))).set ((mxx y20 y23) : Int).toNat (wu32 (vx 0 a2 1))).length c29), (14, .slice A53 t49.length c54), (15, .int .i64 t50), (16, .int .i64 t51), (74, .bool (!t12))]) (by kernel_rfl) ?_ rfl
  clear hs; intro a hs
  cases hb60 : (!t12)
  · replace H := ite_t H (nf hb60)
    rw [hb60] at hs
    refine q_pvs 3 7 [5, 8, 11, 12, 13, 14, 15, 78] hs (L' := [(5, .pointer (some ad6)), (8, .int .i64 y17), (11, .int .i64 (mnn y20 y23)), (12, .int .i64 (mxx y20 y23)), (13, .slice (some ad35) (((List.replicate (y17 : Int).toNat (eI .u32).d).set ((mnn y20 y23) : Int).toNat (wu32 (vx 0 a2 0))).set ((mxx y20 y23) : Int).toNat (wu32 (vx 0 a2 1))).length c29), (14, .slice A53 t49.length c54), (15, .int .i64 t50), (78, .bool (t51 != 0))]) (by kernel_rfl) ?_ rfl
    clear hs; intro a hs
    cases hb61 : (t51 != 0)
    · replace H := ite_t H (bne_eq_false_iff_eq.1 hb61)
      rw [hb61] at hs
      refine q_pvs 7 13 [5, 8, 11, 12, 13, 14, 84] hs (L' := [(5, .pointer (some ad6)), (8, .int .i64 y17), (11, .int .i64 (mnn y20 y23)), (12, .int .i64 (mxx y20 y23)), (13, .slice (some ad35) (((List.replicate (y17 : Int).toNat (eI .u32).d).set ((mnn y20 y23) : Int).toNat (wu32 (vx 0 a2 0))).set ((mxx y20 y23) : Int).toNat (wu32 (vx 0 a2 1))).length c29), (14, .slice A53 t49.length c54), (84, .bool (t50 != (w64 ((mxx y20 y23) + 1))))]) (by kernel_rfl) ?_ rfl
      clear hs; intro a hs
      cases hb62 : (t50 != (w64 ((mxx y20 y23) + 1)))
      · replace H := ite_t H (bne_eq_false_iff_eq.1 hb62)
        rw [hb62] at hs
        refine q_pvs 13 19 [5, 8, 11, 12, 13, 14, 90] hs (L' := [(5, .pointer (some ad6)), (8, .int .i64 y17), (11, .int .i64 (mnn y20 y23)), (12, .int .i64 (mxx y20 y23)), (13, .slice (some ad35) (((List.replicate (y17 : Int).toNat (eI .u32).d).set ((mnn y20 y23) : Int).toNat (wu32 (vx 0 a2 0))).set ((mxx y20 y23) : Int).toNat (wu32 (vx 0 a2 1))).length c29), (14, .slice A53 t49.length c54), (90, .bool ((t49.length : Int) != y17))]) (by kernel_rfl) ?_ rfl
        clear hs; intro a hs
        cases hb63 : ((t49.length : Int) != y17)
        · replace H := ite_t H (bne_eq_false_iff_eq.1 hb63)
          rw [hb63] at hs
          refine q_pvs 19 21 [5, 8, 11, 12, 13, 14, 90, 91, 92] hs (L' := [(5, .pointer (some ad6)), (8, .int .i64 y17), (11, .int .i64 (mnn y20 y23)), (12, .int .i64 (mxx y20 y23)), (13, .slice (some ad35) (((List.replicate (y17 : Int).toNat (eI .u32).d).set ((mnn y20 y23) : Int).toNat (wu32 (vx 0 a2 0))).set ((mxx y20 y23) : Int).toNat (wu32 (vx 0 a2 1))).length c29), (14, .slice A53 t49.length c54), (90, .bool false), (91, .slice A53 t49.length c54), (92, .int .i64 (mxx y20 y23))]) (by kernel_rfl) ?_ rfl
          clear hs; intro a hs
          obtain ⟨hp64, H⟩ := ite_only H
          obtain ⟨ad65, rfl⟩ := (Rd.of_own (hw.up 0)).some hp64.1 hp64.2
          refine q_run hs (op := (Op.indexAddr 22 (Operand.tmp 91) (Operand.tmp 92))) (ty := 0) (dst := some 93) (g := some (18, false)) (by kernel_rfl) (by kernel_rfl) (by kernel_rfl) (fun wx hbx => (x_idx (T := 23) (sz := 1) (a := ad65) (n := t49.length) (cap := c54) (k := .i64) (i := (mxx y20 y23)) (by kernel_rfl) (by kernel_rfl) (by kernel_rfl) (by kernel_rfl) hp64.1 hp64.2)) [5, 8, 11, 12, 13, 14, 90, 93] (L' := [(5, .pointer (some ad6)), (8, .int .i64 y17), (11, .int .i64 (mnn y20 y23)), (12, .int .i64 (mxx y20 y23)), (13, .slice (some ad35) (((List.replicate (y17 : Int).toNat (eI .u32).d).set ((mnn y20 y23) : Int).toNat (wu32 (vx 0 a2 0))).set ((mxx y20 y23) : Int).toNat (wu32 (vx 0 a2 1))).length c29), (14, .slice (some ad65) t49.length c54), (90, .bool false), (93, .pointer (some (ad65.add ((mxx y20 y23).toNat * 1))))]) (by kernel_rfl) ?_
          clear hs; intro a hs
          refine q_run hs (op := (Op.load 23 (Operand.tmp 93))) (ty := 23) (dst := some 94) (g := some (18, false)) (by kernel_rfl) (by kernel_rfl) (by kernel_rfl) (fun wx hbx => (x_ld (E := (eI .u32)) (off := 0) (p := ad65.add ((mxx y20 y23).toNat * 1)) (v := .int .u32 (ix (eI .u32).d t49 (mxx y20 y23))) ((Rd.of_own (hw.up 0)).below hbx) hp64.1 hp64.2 (by kernel_rfl) rfl (by kernel_rfl) (by kernel_rfl))) [5, 8, 11, 12, 13, 14, 90, 94] (L' := [(5, .pointer (some ad6)), (8, .int .i64 y17), (11, .int .i64 (mnn y20 y23)), (12, .int .i64 (mxx y20 y23)), (13, .slice (some ad35) (((List.replicate (y17 : Int).toNat (eI .u32).d).set ((mnn y20 y23) : Int).toNat (wu32 (vx 0 a2 0))).set ((mxx y20 y23) : Int).toNat (wu32 (vx 0 a2 1))).length c29), (14, .slice (some ad65) t49.length c54), (90, .bool false), (94, .int .u32 (ix (eI .u32).d t49 (mxx y20 y23)))]) (by kernel_rfl) ?_
          clear hs; intro a hs
          refine q_run hs (op := (Op.indexAddr 49 (Operand.tmp 5) (Operand.const (Value.int IntKind.i64 1)))) (ty := 0) (dst := some 95) (g := some (18, false)) (by kernel_rfl) (by kernel_rfl) (by kernel_rfl) (fun wx hbx => (x_vidx (e := 48) (p := ad6) (n := 2) (k := .i64) (i := 1) (sz := 1) (by kernel_rfl) (by kernel_rfl) (by kernel_rfl) (by kernel_rfl) (⟨by decide, by decide⟩ : (0 : Int) ≤ 1 ∧ (1 : Int) < ((2 : Nat) : Int)).1 (⟨by decide, by decide⟩ : (0 : Int) ≤ 1 ∧ (1 : Int) < ((2 : Nat) : Int)).2)) [5, 8, 11, 12, 13, 14, 90, 94, 95] (L' := [(5, .pointer (some ad6)), (8, .int .i64 y17), (11, .int .i64 (mnn y20 y23)), (12, .int .i64 (mxx y20 y23)), (13, .slice (some ad35) (((List.replicate (y17 : Int).toNat (eI .u32).d).set ((mnn y20 y23) : Int).toNat (wu32 (vx 0 a2 0))).set ((mxx y20 y23) : Int).toNat (wu32 (vx 0 a2 1))).length c29), (14, .slice (some ad65) t49.length c54), (90, .bool false), (94, .int .u32 (ix (eI .u32).d t49 (mxx y20 y23))), (95, .pointer (some ((ad6 : Addr).add ((1 : Int).toNat * 1))))]) (by kernel_rfl) ?_
          clear hs; intro a hs
          refine q_run hs (op := (Op.load 48 (Operand.tmp 95))) (ty := 48) (dst := some 96) (g := some (18, false)) (by kernel_rfl) (by kernel_rfl) (by kernel_rfl) (fun wx hbx => (x_ld (E := eA49) (off := 1) (p := (ad6 : Addr).add ((1 : Int).toNat * 1)) (v := .int .u16 (vx 0 a2 1)) ((Rd.of_own (hw.up 3)).below hbx) (one_ok a2).1 (one_ok a2).2 (by kernel_rfl) (by simp only [add_add', Int.toNat_zero, Nat.zero_mul, Nat.zero_add, Nat.mul_one] <;> rfl) (by kernel_rfl) (by kernel_rfl))) [5, 8, 11, 12, 13, 14, 90, 94, 96] (L' := [(5, .pointer (some ad6)), (8, .int .i64 y17), (11, .int .i64 (mnn y20 y23)), (12, .int .i64 (mxx y20 y23)), (13, .slice (some ad35) (((List.replicate (y17 : Int).toNat (eI .u32).d).set ((mnn y20 y23) : Int).toNat (wu32 (vx 0 a2 0))).set ((mxx y20 y23) : Int).toNat (wu32 (vx 0 a2 1))).length c29), (14, .slice (some ad65) t49.length c54), (90, .bool false), (94, .int .u32 (ix (eI .u32).d t49 (mxx y20 y23))), (96, .int .u16 (vx 0 a2 1))]) (by kernel_rfl) ?_
          clear hs; intro a hs
          refine q_pvs 25 29 [5, 8, 11, 12, 13, 14, 100] hs (L' := [(5, .pointer (some ad6)), (8, .int .i64 y17), (11, .int .i64 (mnn y20 y23)), (12, .int .i64 (mxx y20 y23)), (13, .slice (some ad35) (((List.replicate (y17 : Int).toNat (eI .u32).d).set ((mnn y20 y23) : Int).toNat (wu32 (vx 0 a2 0))).set ((mxx y20 y23) : Int).toNat (wu32 (vx 0 a2 1))).length c29), (14, .slice (some ad65) t49.length c54), (100, .bool ((ix (eI .u32).d t49 (mxx y20 y23)) != (wu32 ((wu32 (vx 0 a2 1)) * 2 ^ 16))))]) (by kernel_rfl) ?_ rfl
          clear hs; intro a hs
          refine q_end (by kernel_rfl) ?_
          intro wq hbq
          replace hw := hw.behind hbq
          replace hw := hw.up 4
          replace hw := hw.up 4
          replace hw := hw.up 4
          replace hw := hw.up 4
          replace hw := hw.up 4
          replace hw := hw.only 5
          exact hJ1 ((ix (eI .u32).d t49 (mxx y20 y23)) != (wu32 ((wu32 (vx 0 a2 1)) * 2 ^ 16))) _ _ (hs.keep [5, 8, 11, 12, 13, 14, 100] (by kernel_rfl)) hw H
        · replace H := ite_f H (bne_iff_ne.1 hb63)
          rw [hb63] at hs
          refine q_pvs 19 29 [5, 8, 11, 12, 13, 14, 100] hs (L' := [(5, .pointer (some ad6)), (8, .int .i64 y17), (11, .int .i64 (mnn y20 y23)), (12, .int .i64 (mxx y20 y23)), (13, .slice (some ad35) (((List.replicate (y17 : Int).toNat (eI .u32).d).set ((mnn y20 y23) : Int).toNat (wu32 (vx 0 a2 0))).set ((mxx y20 y23) : Int).toNat (wu32 (vx 0 a2 1))).length c29), (14, .slice A53 t49.length c54), (100, .bool true)]) (by kernel_rfl) ?_ rfl
          clear hs; intro a hs
          refine q_end (by kernel_rfl) ?_
          intro wq hbq
          replace hw := hw.behind hbq
          replace hw := hw.up 4
          replace hw := hw.up 4
          replace hw := hw.up 4
          replace hw := hw.up 4
          replace hw := hw.up 4
          replace hw := hw.only 5
          exact hJ1 true _ _ (hs.keep [5, 8, 11, 12, 13, 14, 100] (by kernel_rfl)) hw H
      · replace H := ite_f H (bne_iff_ne.1 hb62)
        rw [hb62] at hs
        refine q_pvs 13 29 [5, 8, 11, 12, 13, 14, 100] hs (L' := [(5, .pointer (some ad6)), (8, .int .i64 y17), (11, .int .i64 (mnn y20 y23)), (12, .int .i64 (mxx y20 y23)), (13, .slice (some ad35) (((List.replicate (y17 : Int).toNat (eI .u32).d).set ((mnn y20 y23) : Int).toNat (wu32 (vx 0 a2 0))).set ((mxx y20 y23) : Int).toNat (wu32 (vx 0 a2 1))).length c29), (14, .slice A53 t49.length c54), (100, .bool true)]) (by kernel_rfl) ?_ rfl
        clear hs; intro a hs
        refine q_end (by kernel_rfl) ?_
        intro wq hbq
        replace hw := hw.behind hbq
        replace hw := hw.up 4
        replace hw := hw.up 4
        replace hw := hw.up 4
        replace hw := hw.up 4
        replace hw := hw.up 4
        replace hw := hw.only 5
        exact hJ1 true _ _ (hs.keep [5, 8, 11, 12, 13, 14, 100] (by kernel_rfl)) hw H
    · replace H := ite_f H (bne_iff_ne.1 hb61)
      rw [hb61] at hs
      refine q_pvs 7 29 [5, 8, 11, 12, 13, 14, 100] hs (L' := [(5, .pointer (some ad6)), (8, .int .i64 y17), (11, .int .i64 (mnn y20 y23)), (12, .int .i64 (mxx y20 y23)), (13, .slice (some ad35) (((List.replicate (y17 : Int).toNat (eI .u32).d).set ((mnn y20 y23) : Int).toNat (wu32 (vx 0 a2 0))).set ((mxx y20 y23) : Int).toNat (wu32 (vx 0 a2 1))).length c29), (14, .slice A53 t49.length c54), (100, .bool true)]) (by kernel_rfl) ?_ rfl
      clear hs; intro a hs
      refine q_end (by kernel_rfl) ?_
      intro wq hbq
      replace hw := hw.behind hbq
      replace hw := hw.up 4
      replace hw := hw.up 4
      replace hw := hw.up 4
      replace hw := hw.up 4
      replace hw := hw.up 4
      replace hw := hw.only 5
      exact hJ1 true _ _ (hs.keep [5, 8, 11, 12, 13, 14, 100] (by kernel_rfl)) hw H
  · replace H := ite_f H (ff (nt hb60))
    rw [hb60] at hs
    refine q_pvs 3 29 [5, 8, 11, 12, 13, 14, 100] hs (L' := [(5, .pointer (some ad6)), (8, .int .i64 y17), (11, .int .i64 (mnn y20 y23)), (12, .int .i64 (mxx y20 y23)), (13, .slice (some ad35) (((List.replicate (y17 : Int).toNat (eI .u32).d).set ((mnn y20 y23) : Int).toNat (wu32 (vx 0 a2 0))).set ((mxx y20 y23) : Int).toNat (wu32 (vx 0 a2 1))).length c29), (14, .slice A53 t49.length c54), (100, .bool true)]) (by kernel_rfl) ?_ rfl
    clear hs; intro a hs
    refine q_end (by kernel_rfl) ?_
    intro wq hbq
    replace hw := hw.behind hbq
    replace hw := hw.up 4
    replace hw := hw.up 4
    replace hw := hw.up 4
    replace hw := hw.up 4
    replace hw := hw.up 4
    replace hw := hw.only 5
    exact hJ1 true _ _ (hs.keep [5, 8, 11, 12, 13, 14, 100] (by kernel_rfl)) hw H

end Go.Proofs.Ytpbfjcpndmmgoaa.T08
