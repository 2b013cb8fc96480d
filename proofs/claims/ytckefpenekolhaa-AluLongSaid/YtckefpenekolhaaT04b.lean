/- YtckefpenekolhaaT04: Go functions told as plain ones, each with a proof that its call comes to what is told, part 2. Condition of each: that the plain function comes to a value. -/
import Derived.Test.YtckefpenekolhaaT04a
namespace Go.Proofs.Ytckefpenekolhaa.T04
open Go Go.RowKit Go.Proofs.Ytckefpenekolhaa.E
set_option linter.unusedVariables false
set_option linter.unusedSimpArgs false

/-! rivet/isa.word: function 30 -/
noncomputable def isa_word.j2 (a0 : Sapi_Instr) : Option Int := ((isa_head 3 true a0.U).bind fun t108 => (((isa_lay ([t108, (#v[24, 4, a0.Op] : Vector Int 3), (#v[0, 24, a0.Imm] : Vector Int 3)] : List (Vector Int 3))).bind fun t116 => (some t116))))
noncomputable def isa_word.j1 (a0 : Sapi_Instr) (v38 : Bool) : Option Int := (if v38 = true then ((isa_head 0 true (a0.Kind == 4)).bind fun t42 => (((isa_lay ([t42, (#v[24, 4, a0.A] : Vector Int 3)] : List (Vector Int 3))).bind fun t50 => (some t50)))) else (if a0.Kind = 2 then ((isa_head 1 a0.U (decide (a0.Imm < 0))).bind fun t59 => (((isa_lay ([t59, (#v[24, 4, a0.A] : Vector Int 3), (#v[20, 4, a0.B] : Vector Int 3), (#v[16, 4, a0.Op] : Vector Int 3), (#v[0, 16, a0.Imm] : Vector Int 3)] : List (Vector Int 3))).bind fun t67 => (some t67)))) else (if a0.Kind = 5 then ((isa_head 2 (decide (a0.Op ≥ 2)) ((a0.Op.tmod 2) == 1)).bind fun t76 => (((isa_lay ([t76, (#v[24, 4, a0.A] : Vector Int 3), (#v[20, 4, a0.B] : Vector Int 3), (#v[0, 20, a0.Imm] : Vector Int 3)] : List (Vector Int 3))).bind fun t84 => (some t84)))) else (if a0.Kind = 6 then ((isa_head 3 false a0.U).bind fun t93 => (((isa_lay ([t93, (#v[24, 4, a0.Op] : Vector Int 3), (#v[0, 4, a0.C] : Vector Int 3)] : List (Vector Int 3))).bind fun t101 => (some t101)))) else isa_word.j2 a0))))
noncomputable def isa_word (a0 : Sapi_Instr) : Option Int := (if a0.Kind = 1 then ((isa_head 0 a0.U false).bind fun t21 => (((isa_lay ([t21, (#v[24, 4, a0.A] : Vector Int 3), (#v[20, 4, a0.B] : Vector Int 3), (#v[16, 4, a0.Op] : Vector Int 3), (#v[0, 4, a0.C] : Vector Int 3)] : List (Vector Int 3))).bind fun t29 => (some t29)))) else (if a0.Kind = 3 then isa_word.j1 a0 true else isa_word.j1 a0 (a0.Kind == 4)))
set_option maxRecDepth 100000 in
set_option maxHeartbeats 4000000 in
theorem isa_word.calls (a0 : Sapi_Instr) (r : Int) (w0 : World) (H : isa_word a0 = some r) :
    Calls Try.prog 30 #[.agg (eSapi_Instr.enc a0).toArray] w0 fun e w' => e = .returned (.int .u32 r) ∧ St [] w0 w' [] := by
 have hw : St [] w0 w0 [] := St.nil w0
 unfold isa_word at H
 refine go_fn Try.func30 rfl 97 Try.ntmps30 [(0, .agg (eSapi_Instr.enc a0).toArray)] (by kernel_rfl) rfl ?_
 intro a hs
 refine go_seq_k fun K1 hK1 => ?_
 refine go_region ?_
 obtain ⟨ad2, wd3, hx4, hw⟩ := x_box1 (P := Try.prog) (elem := 27) (v := (Operand.tmp 0)) (ty := 0) hs hw eSapi_Instr a0 (by kernel_rfl)
 refine go_run hs (op := (Op.box 27 (Operand.tmp 0))) (ty := 0) (dst := some 1) (g := none) (by kernel_rfl) (by kernel_rfl) (by kernel_rfl) hx4 [1] (L' := [(1, .pointer (some ad2))]) (by kernel_rfl) ?_
 clear hs; intro a hs
 refine go_pvs 1 2 [1] hs (L' := [(1, .pointer (some ad2))]) (by kernel_rfl) ?_ rfl
 clear hs; intro a hs
 refine go_end (by kernel_rfl) ?_
 refine hK1 _ _ ?_
 refine go_seq_k fun K6 hK6 => ?_
 refine u_region (n := 97) [0, 1, 2, 3, 4, 5, 6, 7, 8, 9, 10, 11] [(12, 16, 3, (Operand.tmp 9)), (13, 17, 4, (Operand.tmp 12)), (14, 18, 5, (Operand.tmp 15)), (15, 19, 6, (Operand.tmp 18))] (by kernel_rfl) (by kernel_rfl) hs hw ?_
 refine u_pvs [0] [1, 2, 3, 4, 5, 6, 7, 8, 9, 10, 11] [1, 7] hs (L' := [(1, .pointer (some ad2)), (7, .pointer (some ((ad2 : Addr).add 2)))]) (by kernel_rfl) ?_ (by kernel_rfl)
 clear hs; intro a hs
 refine u_run hs (op := (Op.load 3 (Operand.tmp 7))) (ty := 3) (dst := some 8) (g := none) (by kernel_rfl) (by kernel_rfl) (by kernel_rfl) (fun wx hbx => (x_ld (E := eSapi_Instr) (off := 2) (p := (ad2 : Addr).add 2) (v := .int .i64 a0.A) ((Rd.of_own (hw.up 0)).below hbx) (one_ok a0).1 (one_ok a0).2 (by kernel_rfl) (one_off _ _ _) (by kernel_rfl) (by kernel_rfl))) [1, 8] (L' := [(1, .pointer (some ad2)), (8, .int .i64 a0.A)]) (by kernel_rfl) ?_
 clear hs; intro a hs
 refine u_pvs [2, 3] [4, 5, 6, 7, 8, 9, 10, 11] [1, 9, 10] hs (L' := [(1, .pointer (some ad2)), (9, .agg #[.int .i64 24, .int .i64 4, .int .i64 a0.A]), (10, .pointer (some ((ad2 : Addr).add 3)))]) (by kernel_rfl) ?_ (by kernel_rfl)
 clear hs; intro a hs
 refine u_run hs (op := (Op.load 3 (Operand.tmp 10))) (ty := 3) (dst := some 11) (g := none) (by kernel_rfl) (by kernel_rfl) (by kernel_rfl) (fun wx hbx => (x_ld (E := eSapi_Instr) (off := 3) (p := (ad2 : Addr).add 3) (v := .int .i64 a0.B) ((Rd.of_own (hw.up 0)).below hbx) (one_ok a0).1 (one_ok a0).2 (by kernel_rfl) (one_off _ _ _) (by kernel_rfl) (by kernel_rfl))) [1, 9, 11] (L' := [(1, .pointer (some ad2)), (9, .agg #[.int .i64 24, .int .i64 4, .int .i64 a0.A]), (11, .int .i64 a0.B)]) (by kernel_rfl) ?_
 clear hs; intro a hs
 refine u_pvs [5, 6] [7, 8, 9, 10, 11] [1, 9, 12, 13] hs (L' := [(1, .pointer (some ad2)), (9, .agg #[.int .i64 24, .int .i64 4, .int .i64 a0.A]), (12, .agg #[.int .i64 20, .int .i64 4, .int .i64 a0.B]), (13, .pointer (some ((ad2 : Addr).add 1)))]) (by kernel_rfl) ?_ (by kernel_rfl)
 clear hs; intro a hs
 refine u_run hs (op := (Op.load 3 (Operand.tmp 13))) (ty := 3) (dst := some 14) (g := none) (by kernel_rfl) (by kernel_rfl) (by kernel_rfl) (fun wx hbx => (x_ld (E := eSapi_Instr) (off := 1) (p := (ad2 : Addr).add 1) (v := .int .i64 a0.Op) ((Rd.of_own (hw.up 0)).below hbx) (one_ok a0).1 (one_ok a0).2 (by kernel_rfl) (one_off _ _ _) (by kernel_rfl) (by kernel_rfl))) [1, 9, 12, 14] (L' := [(1, .pointer (some ad2)), (9, .agg #[.int .i64 24, .int .i64 4, .int .i64 a0.A]), (12, .agg #[.int .i64 20, .int .i64 4, .int .i64 a0.B]), (14, .int .i64 a0.Op)]) (by kernel_rfl) ?_
 clear hs; intro a hs
 refine u_pvs [8, 9] [10, 11] [1, 9, 12, 15, 16] hs (L' := [(1, .pointer (some ad2)), (9, .agg #[.int .i64 24, .int .i64 4, .int .i64 a0.A]), (12, .agg #[.int .i64 20, .int .i64 4, .int .i64 a0.B]), (15, .agg #[.int .i64 16, .int .i64 4, .int .i64 a0.Op]), (16, .pointer (some ((ad2 : Addr).add 1)))]) (by kernel_rfl) ?_ (by kernel_rfl)
 clear hs; intro a hs
 refine u_run hs (op := (Op.load 3 (Operand.tmp 16))) (ty := 3) (dst := some 17) (g := none) (by kernel_rfl) (by kernel_rfl) (by kernel_rfl) (fun wx hbx => (x_ld (E := eSapi_Instr) (off := 1) (p := (ad2 : Addr).add 1) (v := .int .i64 a0.Op) ((Rd.of_own (hw.up 0)).below hbx) (one_ok a0).1 (one_ok a0).2 (by kernel_rfl) (one_off _ _ _) (by kernel_rfl) (by kernel_rfl))) [1, 9, 12, 15, 17] (L' := [(1, .pointer (some ad2)), (9, .agg #[.int .i64 24, .int .i64 4, .int .i64 a0.A]), (12, .agg #[.int .i64 20, .int .i64 4, .int .i64 a0.B]), (15, .agg #[.int .i64 16, .int .i64 4, .int .i64 a0.Op]), (17, .int .i64 a0.Op)]) (by kernel_rfl) ?_
 clear hs; intro a hs
 refine u_pvs [11] [] [1, 9, 12, 15, 18] hs (L' := [(1, .pointer (some ad2)), (9, .agg #[.int .i64 24, .int .i64 4, .int .i64 a0.A]), (12, .agg #[.int .i64 20, .int .i64 4, .int .i64 a0.B]), (15, .agg #[.int .i64 16, .int .i64 4, .int .i64 a0.Op]), (18, .agg #[.int .i64 24, .int .i64 4, .int .i64 a0.Op])]) (by kernel_rfl) ?_ (by kernel_rfl)
 clear hs; intro a hs
 refine u_end ?_
 refine ⟨[(1, .pointer (some ad2)), (9, .agg #[.int .i64 24, .int .i64 4, .int .i64 a0.A]), (12, .agg #[.int .i64 20, .int .i64 4, .int .i64 a0.B]), (15, .agg #[.int .i64 16, .int .i64 4, .int .i64 a0.Op]), (18, .agg #[.int .i64 24, .int .i64 4, .int .i64 a0.Op])], [{ α := Vector Int 3, E := eA76, i := 12, s := 16, d := 3, T := 76, ty := 0, ty2 := 0, z := .agg #[.int .i64 0, .int .i64 0, .int .i64 0], x0 := (Vector.replicate 3 0), y := (Operand.tmp 9), x := (#v[24, 4, a0.A] : Vector Int 3) : AJ }, { α := Vector Int 3, E := eA76, i := 13, s := 17, d := 4, T := 76, ty := 0, ty2 := 0, z := .agg #[.int .i64 0, .int .i64 0, .int .i64 0], x0 := (Vector.replicate 3 0), y := (Operand.tmp 12), x := (#v[20, 4, a0.B] : Vector Int 3) : AJ }, { α := Vector Int 3, E := eA76, i := 14, s := 18, d := 5, T := 76, ty := 0, ty2 := 0, z := .agg #[.int .i64 0, .int .i64 0, .int .i64 0], x0 := (Vector.replicate 3 0), y := (Operand.tmp 15), x := (#v[16, 4, a0.Op] : Vector Int 3) : AJ }, { α := Vector Int 3, E := eA76, i := 15, s := 19, d := 6, T := 76, ty := 0, ty2 := 0, z := .agg #[.int .i64 0, .int .i64 0, .int .i64 0], x0 := (Vector.replicate 3 0), y := (Operand.tmp 18), x := (#v[24, 4, a0.Op] : Vector Int 3) : AJ }], rfl, hs.keep [1, 9, 12, 15, 18] (by kernel_rfl), by intro j hj; simp only [List.mem_cons, List.not_mem_nil, or_false] at hj; rcases hj with rfl | rfl | rfl | rfl <;> exact ⟨by kernel_rfl, by kernel_rfl, by kernel_rfl, by kernel_rfl, by kernel_rfl, by kernel_rfl, by kernel_rfl, by kernel_rfl, by kernel_rfl⟩, ?_⟩
 intro ad7 ad8 ad9 ad10 a wq hs hwq
 clear hw; have hw := hwq; clear hwq
 replace hw : St [] w0 wq [own 76 eA76 (some ad7) 1 [(#v[24, 4, a0.A] : Vector Int 3)], own 76 eA76 (some ad8) 1 [(#v[20, 4, a0.B] : Vector Int 3)], own 76 eA76 (some ad9) 1 [(#v[16, 4, a0.Op] : Vector Int 3)], own 76 eA76 (some ad10) 1 [(#v[24, 4, a0.Op] : Vector Int 3)], own 27 eSapi_Instr (some ad2) 1 [a0]] := hw
 replace hs : Slots a 97 [(1, .pointer (some ad2)), (3, .pointer (some ad7)), (4, .pointer (some ad8)), (5, .pointer (some ad9)), (6, .pointer (some ad10))] := hs.keep [1, 3, 4, 5, 6] (by kernel_rfl)
 refine hK6 _ _ ?_
 refine go_seq_k fun K15 hK15 => ?_
 have hJ2 : ∀ (a : Act) (w : World), Slots a 97 [(1, .pointer (some ad2)), (6, .pointer (some ad10))] → St [] w0 w [own 76 eA76 (some ad7) 1 [(#v[24, 4, a0.A] : Vector Int 3)], own 76 eA76 (some ad8) 1 [(#v[20, 4, a0.B] : Vector Int 3)], own 76 eA76 (some ad9) 1 [(#v[16, 4, a0.Op] : Vector Int 3)], own 76 eA76 (some ad10) 1 [(#v[24, 4, a0.Op] : Vector Int 3)], own 27 eSapi_Instr (some ad2) 1 [a0]] → isa_word.j2 a0 = some r → K15 a w := by
  intro a w hs hw H
  unfold isa_word.j2 at H
  refine hK15 _ _ ?_
  refine go_seq_k fun K106 hK106 => ?_
  refine z_region [0, 1, 2, 3, 4, 5, 6] [7, 8, 9] [] (by kernel_rfl) (by kernel_rfl) (fun c a d v w h => by cases d <;> exact h) ?_
  refine z_pvs [0] [1, 2, 3, 4, 5, 6] [1, 6, 88] hs (L' := [(1, .pointer (some ad2)), (6, .pointer (some ad10)), (88, .pointer (some ((ad2 : Addr).add 6)))]) (by kernel_rfl) ?_ (by kernel_rfl)
  clear hs; intro a hs
  refine z_run hs (op := (Op.load 4 (Operand.tmp 88))) (ty := 4) (dst := some 89) (g := none) (by kernel_rfl) (by kernel_rfl) (by kernel_rfl) (fun wx hbx => (x_ld (E := eSapi_Instr) (off := 6) (p := (ad2 : Addr).add 6) (v := .bool a0.U) ((Rd.of_own (hw.up 4)).below hbx) (one_ok a0).1 (one_ok a0).2 (by kernel_rfl) (one_off _ _ _) (by kernel_rfl) (by kernel_rfl))) [1, 6, 89] (L' := [(1, .pointer (some ad2)), (6, .pointer (some ad10)), (89, .bool a0.U)]) (by kernel_rfl) ?_
  clear hs; intro a hs
  obtain ⟨t108, hx109, H⟩ := bind_some H
  refine z_call hs (op := (Op.call { callee := (Callee.value (Operand.func 57)), args := #[(Operand.const (Value.int IntKind.i64 3)), (Operand.const (Value.bool true)), (Operand.tmp 89)], argTypes := #[3, 4, 4] })) (ty := 76) (dst := some 90) (g := none) (by kernel_rfl) (by kernel_rfl) (by kernel_rfl) (f := 57) (args := #[.int .i64 3, .bool true, .bool a0.U]) (v := .agg #[.int .i64 (vx 0 t108 0), .int .i64 (vx 0 t108 1), .int .i64 (vx 0 t108 2)]) (by kernel_rfl) (fun wx hbx => (isa_head.calls 3 true a0.U t108 _ hx109).mono ?_) [1, 6, 90] (L' := [(1, .pointer (some ad2)), (6, .pointer (some ad10)), (90, .agg #[.int .i64 (vx 0 t108 0), .int .i64 (vx 0 t108 1), .int .i64 (vx 0 t108 2)])]) (by kernel_rfl) ?_
  · rintro e wy ⟨rfl, hwy⟩
    exact ⟨rfl, below_st hbx hwy⟩
  clear hs; intro a hs
  refine z_run hs (op := (Op.load 76 (Operand.tmp 6))) (ty := 76) (dst := some 91) (g := none) (by kernel_rfl) (by kernel_rfl) (by kernel_rfl) (fun wx hbx => (x_lds (E := eA76) (off := 0) (p := ad10) (cs := [.int .i64 (vx 0 (#v[24, 4, a0.Op] : Vector Int 3) 0), .int .i64 (vx 0 (#v[24, 4, a0.Op] : Vector Int 3) 1), .int .i64 (vx 0 (#v[24, 4, a0.Op] : Vector Int 3) 2)]) ((Rd.of_own (hw.up 3)).below hbx) (one_ok (#v[24, 4, a0.Op] : Vector Int 3)).1 (one_ok (#v[24, 4, a0.Op] : Vector Int 3)).2 (by kernel_rfl) (one_at _ _) (by kernel_rfl) (by kernel_rfl) (by kernel_rfl))) [1, 90, 91] (L' := [(1, .pointer (some ad2)), (90, .agg #[.int .i64 (vx 0 t108 0), .int .i64 (vx 0 t108 1), .int .i64 (vx 0 t108 2)]), (91, .agg #[.int .i64 (vx 0 (#v[24, 4, a0.Op] : Vector Int 3) 0), .int .i64 (vx 0 (#v[24, 4, a0.Op] : Vector Int 3) 1), .int .i64 (vx 0 (#v[24, 4, a0.Op] : Vector Int 3) 2)])]) (by kernel_rfl) ?_
  clear hs; intro a hs
  refine z_pvs [4] [5, 6] [90, 91, 92] hs (L' := [(90, .agg #[.int .i64 (vx 0 t108 0), .int .i64 (vx 0 t108 1), .int .i64 (vx 0 t108 2)]), (91, .agg #[.int .i64 (vx 0 (#v[24, 4, a0.Op] : Vector Int 3) 0), .int .i64 (vx 0 (#v[24, 4, a0.Op] : Vector Int 3) 1), .int .i64 (vx 0 (#v[24, 4, a0.Op] : Vector Int 3) 2)]), (92, .pointer (some ((ad2 : Addr).add 5)))]) (by kernel_rfl) ?_ (by kernel_rfl)
  clear hs; intro a hs
  refine z_run hs (op := (Op.load 3 (Operand.tmp 92))) (ty := 3) (dst := some 93) (g := none) (by kernel_rfl) (by kernel_rfl) (by kernel_rfl) (fun wx hbx => (x_ld (E := eSapi_Instr) (off := 5) (p := (ad2 : Addr).add 5) (v := .int .i64 a0.Imm) ((Rd.of_own (hw.up 4)).below hbx) (one_ok a0).1 (one_ok a0).2 (by kernel_rfl) (one_off _ _ _) (by kernel_rfl) (by kernel_rfl))) [90, 91, 93] (L' := [(90, .agg #[.int .i64 (vx 0 t108 0), .int .i64 (vx 0 t108 1), .int .i64 (vx 0 t108 2)]), (91, .agg #[.int .i64 (vx 0 (#v[24, 4, a0.Op] : Vector Int 3) 0), .int .i64 (vx 0 (#v[24, 4, a0.Op] : Vector Int 3) 1), .int .i64 (vx 0 (#v[24, 4, a0.Op] : Vector Int 3) 2)]), (93, .int .i64 a0.Imm)]) (by kernel_rfl) ?_
  clear hs; intro a hs
  refine z_pvs [6] [] [90, 91, 94] hs (L' := [(90, .agg #[.int .i64 (vx 0 t108 0), .int .i64 (vx 0 t108 1), .int .i64 (vx 0 t108 2)]), (91, .agg #[.int .i64 (vx 0 (#v[24, 4, a0.Op] : Vector Int 3) 0), .int .i64 (vx 0 (#v[24, 4, a0.Op] : Vector Int 3) 1), .int .i64 (vx 0 (#v[24, 4, a0.Op] : Vector Int 3) 2)]), (94, .agg #[.int .i64 0, .int .i64 24, .int .i64 a0.Imm])]) (by kernel_rfl) ?_ (by kernel_rfl)
  clear hs; intro a hs
  refine z_end ?_
  intro wq hbq
  replace hw := hw.behind hbq
  obtain ⟨Aa110, cc111, wd112, hx113, hw⟩ := n_lit (P := Try.prog) (t := 85) (ty := 85) (T := 76) (len := 3) (parts := #[(0, (Operand.tmp 90)), (1, (Operand.tmp 91)), (2, (Operand.tmp 94))]) (z := .agg #[.int .i64 0, .int .i64 0, .int .i64 0]) (bytes := 24) (cells := #[.int .i64 (vx 0 t108 0), .int .i64 (vx 0 t108 1), .int .i64 (vx 0 t108 2), .int .i64 (vx 0 (#v[24, 4, a0.Op] : Vector Int 3) 0), .int .i64 (vx 0 (#v[24, 4, a0.Op] : Vector Int 3) 1), .int .i64 (vx 0 (#v[24, 4, a0.Op] : Vector Int 3) 2), .int .i64 0, .int .i64 24, .int .i64 a0.Imm]) hs hw eA76 ([t108, (#v[24, 4, a0.Op] : Vector Int 3), (#v[0, 24, a0.Imm] : Vector Int 3)] : List (Vector Int 3)) (by kernel_rfl) (by kernel_rfl) (by kernel_rfl) (by kernel_rfl) (by kernel_rfl) (by kernel_rfl) (by kernel_rfl)
  refine p_run hs (op := (Op.buildSlice 85 3 #[(0, (Operand.tmp 90)), (1, (Operand.tmp 91)), (2, (Operand.tmp 94))])) (ty := 85) (dst := some 95) (g := none) (by kernel_rfl) (by kernel_rfl) (by kernel_rfl) hx113 [95] (L' := [(95, .slice Aa110 ([t108, (#v[24, 4, a0.Op] : Vector Int 3), (#v[0, 24, a0.Imm] : Vector Int 3)] : List (Vector Int 3)).length cc111)]) (by kernel_rfl) ?_
  clear hs; intro a hs
  obtain ⟨t116, hx117, H⟩ := bind_some H
  refine p_call hs (op := (Op.call { callee := (Callee.value (Operand.func 56)), args := #[(Operand.tmp 95)], argTypes := #[85] })) (ty := 22) (dst := some 96) (g := none) (by kernel_rfl) (by kernel_rfl) (by kernel_rfl) (f := 56) (args := #[.slice Aa110 ([t108, (#v[24, 4, a0.Op] : Vector Int 3), (#v[0, 24, a0.Imm] : Vector Int 3)] : List (Vector Int 3)).length cc111]) (by kernel_rfl) (isa_lay.calls Aa110 cc111 ([t108, (#v[24, 4, a0.Op] : Vector Int 3), (#v[0, 24, a0.Imm] : Vector Int 3)] : List (Vector Int 3)) t116 _ (Rd.of_own (hw.up 0)) hx117) ?_
  rintro e wd118 ⟨rfl, hw119⟩
  refine ⟨_, rfl, ?_⟩
  replace hw := hw.call hw119
  intro a hs1
  replace hs : Slots a 97 [(96, .int .u32 t116)] := hs1.keep [96] (by kernel_rfl)
  clear hs1
  refine p_pvs [9] [] [2] hs (L' := [(2, .int .u32 t116)]) (by kernel_rfl) ?_
  clear hs; intro a hs
  refine p_last ?_
  refine e_end ?_
  refine hK106 _ _ ?_
  refine wp_ret ?_
  obtain rfl := Option.some.inj H
  refine ret1 (t := 2) (v := .int .u32 t116) hs (by kernel_rfl) (by kernel_rfl) ?_
  exact ⟨rfl, hw.only 0⟩
 refine go_seq_k fun K16 hK16 => ?_
 refine go_region ?_
 refine go_pvs 0 1 [1, 3, 4, 5, 6, 19] hs (L' := [(1, .pointer (some ad2)), (3, .pointer (some ad7)), (4, .pointer (some ad8)), (5, .pointer (some ad9)), (6, .pointer (some ad10)), (19, .pointer (some ((ad2 : Addr).add 0)))]) (by kernel_rfl) ?_ rfl
 clear hs; intro a hs
 refine go_run hs (op := (Op.load 3 (Operand.tmp 19))) (ty := 3) (dst := some 20) (g := none) (by kernel_rfl) (by kernel_rfl) (by kernel_rfl) (x_ld (E := eSapi_Instr) (off := 0) (p := (ad2 : Addr).add 0) (v := .int .i64 a0.Kind) (Rd.of_own (hw.up 4)) (one_ok a0).1 (one_ok a0).2 (by kernel_rfl) (one_off _ _ _) (by kernel_rfl) (by kernel_rfl)) [1, 3, 4, 5, 6, 20] (L' := [(1, .pointer (some ad2)), (3, .pointer (some ad7)), (4, .pointer (some ad8)), (5, .pointer (some ad9)), (6, .pointer (some ad10)), (20, .int .i64 a0.Kind)]) (by kernel_rfl) ?_
 clear hs; intro a hs
 refine go_end (by kernel_rfl) ?_
 refine hK16 _ _ ?_
 refine wp_block ?_
 refine go_seq_k fun K17 hK17 => ?_
 refine go_region ?_
 refine go_pvs 0 2 [1, 3, 4, 5, 6, 20, 21] hs (L' := [(1, .pointer (some ad2)), (3, .pointer (some ad7)), (4, .pointer (some ad8)), (5, .pointer (some ad9)), (6, .pointer (some ad10)), (20, .int .i64 a0.Kind), (21, .bool (a0.Kind == 1))]) (by kernel_rfl) ?_ rfl
 clear hs; intro a hs
 refine go_end (by kernel_rfl) ?_
 refine hK17 _ _ ?_
 refine go_cond hs (a0.Kind == 1) (by kernel_rfl) (fun hc => ?_) (fun hc => ?_)
 ·replace H := ite_t H (beq_iff_eq.1 hc)
  have hb18 := hc
  rw [hb18] at hs
  refine go_seq_k fun K19 hK19 => ?_
  refine z_region [0, 1, 2, 3, 4, 5, 6, 7, 8] [9, 10, 11] [] (by kernel_rfl) (by kernel_rfl) (fun c a d v w h => by cases d <;> exact h) ?_
  refine z_pvs [0] [1, 2, 3, 4, 5, 6, 7, 8] [1, 3, 4, 5, 23] hs (L' := [(1, .pointer (some ad2)), (3, .pointer (some ad7)), (4, .pointer (some ad8)), (5, .pointer (some ad9)), (23, .pointer (some ((ad2 : Addr).add 6)))]) (by kernel_rfl) ?_ (by kernel_rfl)
  clear hs; intro a hs
  refine z_run hs (op := (Op.load 4 (Operand.tmp 23))) (ty := 4) (dst := some 24) (g := none) (by kernel_rfl) (by kernel_rfl) (by kernel_rfl) (fun wx hbx => (x_ld (E := eSapi_Instr) (off := 6) (p := (ad2 : Addr).add 6) (v := .bool a0.U) ((Rd.of_own (hw.up 4)).below hbx) (one_ok a0).1 (one_ok a0).2 (by kernel_rfl) (one_off _ _ _) (by kernel_rfl) (by kernel_rfl))) [1, 3, 4, 5, 24] (L' := [(1, .pointer (some ad2)), (3, .pointer (some ad7)), (4, .pointer (some ad8)), (5, .pointer (some ad9)), (24, .bool a0.U)]) (by kernel_rfl) ?_
  clear hs; intro a hs
  obtain ⟨t21, hx22, H⟩ := bind_some H
  refine z_call hs (op := (Op.call { callee := (Callee.value (Operand.func 57)), args := #[(Operand.const (Value.int IntKind.i64 0)), (Operand.tmp 24), (Operand.const (Value.bool false))], argTypes := #[3, 4, 4] })) (ty := 76) (dst := some 25) (g := none) (by kernel_rfl) (by kernel_rfl) (by kernel_rfl) (f := 57) (args := #[.int .i64 0, .bool a0.U, .bool false]) (v := .agg #[.int .i64 (vx 0 t21 0), .int .i64 (vx 0 t21 1), .int .i64 (vx 0 t21 2)]) (by kernel_rfl) (fun wx hbx => (isa_head.calls 0 a0.U false t21 _ hx22).mono ?_) [1, 3, 4, 5, 25] (L' := [(1, .pointer (some ad2)), (3, .pointer (some ad7)), (4, .pointer (some ad8)), (5, .pointer (some ad9)), (25, .agg #[.int .i64 (vx 0 t21 0), .int .i64 (vx 0 t21 1), .int .i64 (vx 0 t21 2)])]) (by kernel_rfl) ?_
  · rintro e wy ⟨rfl, hwy⟩
    exact ⟨rfl, below_st hbx hwy⟩
  clear hs; intro a hs
  refine z_run hs (op := (Op.load 76 (Operand.tmp 3))) (ty := 76) (dst := some 26) (g := none) (by kernel_rfl) (by kernel_rfl) (by kernel_rfl) (fun wx hbx => (x_lds (E := eA76) (off := 0) (p := ad7) (cs := [.int .i64 (vx 0 (#v[24, 4, a0.A] : Vector Int 3) 0), .int .i64 (vx 0 (#v[24, 4, a0.A] : Vector Int 3) 1), .int .i64 (vx 0 (#v[24, 4, a0.A] : Vector Int 3) 2)]) ((Rd.of_own (hw.up 0)).below hbx) (one_ok (#v[24, 4, a0.A] : Vector Int 3)).1 (one_ok (#v[24, 4, a0.A] : Vector Int 3)).2 (by kernel_rfl) (one_at _ _) (by kernel_rfl) (by kernel_rfl) (by kernel_rfl))) [1, 4, 5, 25, 26] (L' := [(1, .pointer (some ad2)), (4, .pointer (some ad8)), (5, .pointer (some ad9)), (25, .agg #[.int .i64 (vx 0 t21 0), .int .i64 (vx 0 t21 1), .int .i64 (vx 0 t21 2)]), (26, .agg #[.int .i64 (vx 0 (#v[24, 4, a0.A] : Vector Int 3) 0), .int .i64 (vx 0 (#v[24, 4, a0.A] : Vector Int 3) 1), .int .i64 (vx 0 (#v[24, 4, a0.A] : Vector Int 3) 2)])]) (by kernel_rfl) ?_
  clear hs; intro a hs
  refine z_run hs (op := (Op.load 76 (Operand.tmp 4))) (ty := 76) (dst := some 27) (g := none) (by kernel_rfl) (by kernel_rfl) (by kernel_rfl) (fun wx hbx => (x_lds (E := eA76) (off := 0) (p := ad8) (cs := [.int .i64 (vx 0 (#v[20, 4, a0.B] : Vector Int 3) 0), .int .i64 (vx 0 (#v[20, 4, a0.B] : Vector Int 3) 1), .int .i64 (vx 0 (#v[20, 4, a0.B] : Vector Int 3) 2)]) ((Rd.of_own (hw.up 1)).below hbx) (one_ok (#v[20, 4, a0.B] : Vector Int 3)).1 (one_ok (#v[20, 4, a0.B] : Vector Int 3)).2 (by kernel_rfl) (one_at _ _) (by kernel_rfl) (by kernel_rfl) (by kernel_rfl))) [1, 5, 25, 26, 27] (L' := [(1, .pointer (some ad2)), (5, .pointer (some ad9)), (25, .agg #[.int .i64 (vx 0 t21 0), .int .i64 (vx 0 t21 1), .int .i64 (vx 0 t21 2)]), (26, .agg #[.int .i64 (vx 0 (#v[24, 4, a0.A] : Vector Int 3) 0), .int .i64 (vx 0 (#v[24, 4, a0.A] : Vector Int 3) 1), .int .i64 (vx 0 (#v[24, 4, a0.A] : Vector Int 3) 2)]), (27, .agg #[.int .i64 (vx 0 (#v[20, 4, a0.B] : Vector Int 3) 0), .int .i64 (vx 0 (#v[20, 4, a0.B] : Vector Int 3) 1), .int .i64 (vx 0 (#v[20, 4, a0.B] : Vector Int 3) 2)])]) (by kernel_rfl) ?_
  clear hs; intro a hs
  refine z_run hs (op := (Op.load 76 (Operand.tmp 5))) (ty := 76) (dst := some 28) (g := none) (by kernel_rfl) (by kernel_rfl) (by kernel_rfl) (fun wx hbx => (x_lds (E := eA76) (off := 0) (p := ad9) (cs := [.int .i64 (vx 0 (#v[16, 4, a0.Op] : Vector Int 3) 0), .int .i64 (vx 0 (#v[16, 4, a0.Op] : Vector Int 3) 1), .int .i64 (vx 0 (#v[16, 4, a0.Op] : Vector Int 3) 2)]) ((Rd.of_own (hw.up 2)).below hbx) (one_ok (#v[16, 4, a0.Op] : Vector Int 3)).1 (one_ok (#v[16, 4, a0.Op] : Vector Int 3)).2 (by kernel_rfl) (one_at _ _) (by kernel_rfl) (by kernel_rfl) (by kernel_rfl))) [1, 25, 26, 27, 28] (L' := [(1, .pointer (some ad2)), (25, .agg #[.int .i64 (vx 0 t21 0), .int .i64 (vx 0 t21 1), .int .i64 (vx 0 t21 2)]), (26, .agg #[.int .i64 (vx 0 (#v[24, 4, a0.A] : Vector Int 3) 0), .int .i64 (vx 0 (#v[24, 4, a0.A] : Vector Int 3) 1), .int .i64 (vx 0 (#v[24, 4, a0.A] : Vector Int 3) 2)]), (27, .agg #[.int .i64 (vx 0 (#v[20, 4, a0.B] : Vector Int 3) 0), .int .i64 (vx 0 (#v[20, 4, a0.B] : Vector Int 3) 1), .int .i64 (vx 0 (#v[20, 4, a0.B] : Vector Int 3) 2)]), (28, .agg #[.int .i64 (vx 0 (#v[16, 4, a0.Op] : Vector Int 3) 0), .int .i64 (vx 0 (#v[16, 4, a0.Op] : Vector Int 3) 1), .int .i64 (vx 0 (#v[16, 4, a0.Op] : Vector Int 3) 2)])]) (by kernel_rfl) ?_
  clear hs; intro a hs
  refine z_pvs [6] [7, 8] [25, 26, 27, 28, 29] hs (L' := [(25, .agg #[.int .i64 (vx 0 t21 0), .int .i64 (vx 0 t21 1), .int .i64 (vx 0 t21 2)]), (26, .agg #[.int .i64 (vx 0 (#v[24, 4, a0.A] : Vector Int 3) 0), .int .i64 (vx 0 (#v[24, 4, a0.A] : Vector Int 3) 1), .int .i64 (vx 0 (#v[24, 4, a0.A] : Vector Int 3) 2)]), (27, .agg #[.int .i64 (vx 0 (#v[20, 4, a0.B] : Vector Int 3) 0), .int .i64 (vx 0 (#v[20, 4, a0.B] : Vector Int 3) 1), .int .i64 (vx 0 (#v[20, 4, a0.B] : Vector Int 3) 2)]), (28, .agg #[.int .i64 (vx 0 (#v[16, 4, a0.Op] : Vector Int 3) 0), .int .i64 (vx 0 (#v[16, 4, a0.Op] : Vector Int 3) 1), .int .i64 (vx 0 (#v[16, 4, a0.Op] : Vector Int 3) 2)]), (29, .pointer (some ((ad2 : Addr).add 4)))]) (by kernel_rfl) ?_ (by kernel_rfl)
  clear hs; intro a hs
  refine z_run hs (op := (Op.load 3 (Operand.tmp 29))) (ty := 3) (dst := some 30) (g := none) (by kernel_rfl) (by kernel_rfl) (by kernel_rfl) (fun wx hbx => (x_ld (E := eSapi_Instr) (off := 4) (p := (ad2 : Addr).add 4) (v := .int .i64 a0.C) ((Rd.of_own (hw.up 4)).below hbx) (one_ok a0).1 (one_ok a0).2 (by kernel_rfl) (one_off _ _ _) (by kernel_rfl) (by kernel_rfl))) [25, 26, 27, 28, 30] (L' := [(25, .agg #[.int .i64 (vx 0 t21 0), .int .i64 (vx 0 t21 1), .int .i64 (vx 0 t21 2)]), (26, .agg #[.int .i64 (vx 0 (#v[24, 4, a0.A] : Vector Int 3) 0), .int .i64 (vx 0 (#v[24, 4, a0.A] : Vector Int 3) 1), .int .i64 (vx 0 (#v[24, 4, a0.A] : Vector Int 3) 2)]), (27, .agg #[.int .i64 (vx 0 (#v[20, 4, a0.B] : Vector Int 3) 0), .int .i64 (vx 0 (#v[20, 4, a0.B] : Vector Int 3) 1), .int .i64 (vx 0 (#v[20, 4, a0.B] : Vector Int 3) 2)]), (28, .agg #[.int .i64 (vx 0 (#v[16, 4, a0.Op] : Vector Int 3) 0), .int .i64 (vx 0 (#v[16, 4, a0.Op] : Vector Int 3) 1), .int .i64 (vx 0 (#v[16, 4, a0.Op] : Vector Int 3) 2)]), (30, .int .i64 a0.C)]) (by kernel_rfl) ?_
  clear hs; intro a hs
  refine z_pvs [8] [] [25, 26, 27, 28, 31] hs (L' := [(25, .agg #[.int .i64 (vx 0 t21 0), .int .i64 (vx 0 t21 1), .int .i64 (vx 0 t21 2)]), (26, .agg #[.int .i64 (vx 0 (#v[24, 4, a0.A] : Vector Int 3) 0), .int .i64 (vx 0 (#v[24, 4, a0.A] : Vector Int 3) 1), .int .i64 (vx 0 (#v[24, 4, a0.A] : Vector Int 3) 2)]), (27, .agg #[.int .i64 (vx 0 (#v[20, 4, a0.B] : Vector Int 3) 0), .int .i64 (vx 0 (#v[20, 4, a0.B] : Vector Int 3) 1), .int .i64 (vx 0 (#v[20, 4, a0.B] : Vector Int 3) 2)]), (28, .agg #[.int .i64 (vx 0 (#v[16, 4, a0.Op] : Vector Int 3) 0), .int .i64 (vx 0 (#v[16, 4, a0.Op] : Vector Int 3) 1), .int .i64 (vx 0 (#v[16, 4, a0.Op] : Vector Int 3) 2)]), (31, .agg #[.int .i64 0, .int .i64 4, .int .i64 a0.C])]) (by kernel_rfl) ?_ (by kernel_rfl)
  clear hs; intro a hs
  refine z_end ?_
  intro wq hbq
  replace hw := hw.behind hbq
  obtain ⟨Aa23, cc24, wd25, hx26, hw⟩ := n_lit (P := Try.prog) (t := 85) (ty := 85) (T := 76) (len := 5) (parts := #[(0, (Operand.tmp 25)), (1, (Operand.tmp 26)), (2, (Operand.tmp 27)), (3, (Operand.tmp 28)), (4, (Operand.tmp 31))]) (z := .agg #[.int .i64 0, .int .i64 0, .int .i64 0]) (bytes := 24) (cells := #[.int .i64 (vx 0 t21 0), .int .i64 (vx 0 t21 1), .int .i64 (vx 0 t21 2), .int .i64 (vx 0 (#v[24, 4, a0.A] : Vector Int 3) 0), .int .i64 (vx 0 (#v[24, 4, a0.A] : Vector Int 3) 1), .int .i64 (vx 0 (#v[24, 4, a0.A] : Vector Int 3) 2), .int .i64 (vx 0 (#v[20, 4, a0.B] : Vector Int 3) 0), .int .i64 (vx 0 (#v[20, 4, a0.B] : Vector Int 3) 1), .int .i64 (vx 0 (#v[20, 4, a0.B] : Vector Int 3) 2), .int .i64 (vx 0 (#v[16, 4, a0.Op] : Vector Int 3) 0), .int .i64 (vx 0 (#v[16, 4, a0.Op] : Vector Int 3) 1), .int .i64 (vx 0 (#v[16, 4, a0.Op] : Vector Int 3) 2), .int .i64 0, .int .i64 4, .int .i64 a0.C]) hs hw eA76 ([t21, (#v[24, 4, a0.A] : Vector Int 3), (#v[20, 4, a0.B] : Vector Int 3), (#v[16, 4, a0.Op] : Vector Int 3), (#v[0, 4, a0.C] : Vector Int 3)] : List (Vector Int 3)) (by kernel_rfl) (by kernel_rfl) (by kernel_rfl) (by kernel_rfl) (by kernel_rfl) (by kernel_rfl) (by kernel_rfl)
  refine p_run hs (op := (Op.buildSlice 85 5 #[(0, (Operand.tmp 25)), (1, (Operand.tmp 26)), (2, (Operand.tmp 27)), (3, (Operand.tmp 28)), (4, (Operand.tmp 31))])) (ty := 85) (dst := some 32) (g := none) (by kernel_rfl) (by kernel_rfl) (by kernel_rfl) hx26 [32] (L' := [(32, .slice Aa23 ([t21, (#v[24, 4, a0.A] : Vector Int 3), (#v[20, 4, a0.B] : Vector Int 3), (#v[16, 4, a0.Op] : Vector Int 3), (#v[0, 4, a0.C] : Vector Int 3)] : List (Vector Int 3)).length cc24)]) (by kernel_rfl) ?_
  clear hs; intro a hs
  obtain ⟨t29, hx30, H⟩ := bind_some H
  refine p_call hs (op := (Op.call { callee := (Callee.value (Operand.func 56)), args := #[(Operand.tmp 32)], argTypes := #[85] })) (ty := 22) (dst := some 33) (g := none) (by kernel_rfl) (by kernel_rfl) (by kernel_rfl) (f := 56) (args := #[.slice Aa23 ([t21, (#v[24, 4, a0.A] : Vector Int 3), (#v[20, 4, a0.B] : Vector Int 3), (#v[16, 4, a0.Op] : Vector Int 3), (#v[0, 4, a0.C] : Vector Int 3)] : List (Vector Int 3)).length cc24]) (by kernel_rfl) (isa_lay.calls Aa23 cc24 ([t21, (#v[24, 4, a0.A] : Vector Int 3), (#v[20, 4, a0.B] : Vector Int 3), (#v[16, 4, a0.Op] : Vector Int 3), (#v[0, 4, a0.C] : Vector Int 3)] : List (Vector Int 3)) t29 _ (Rd.of_own (hw.up 0)) hx30) ?_
  rintro e wd31 ⟨rfl, hw32⟩
  refine ⟨_, rfl, ?_⟩
  replace hw := hw.call hw32
  intro a hs1
  replace hs : Slots a 97 [(33, .int .u32 t29)] := hs1.keep [33] (by kernel_rfl)
  clear hs1
  refine p_pvs [11] [] [2] hs (L' := [(2, .int .u32 t29)]) (by kernel_rfl) ?_
  clear hs; intro a hs
  refine p_last ?_
  refine e_end ?_
  refine hK19 _ _ ?_
  refine wp_ret ?_
  refine ib_ret ?_
  refine th_ret ?_
  obtain rfl := Option.some.inj H
  refine ret1 (t := 2) (v := .int .u32 t29) hs (by kernel_rfl) (by kernel_rfl) ?_
  exact ⟨rfl, hw.only 0⟩
 ·replace H := ite_f H (beq_eq_false_iff_ne.1 hc)
  have hb33 := hc
  rw [hb33] at hs
  refine go_seq_k fun K34 hK34 => ?_
  have hJ1 : ∀ (v38 : Bool) (a : Act) (w : World), Slots a 97 [(1, .pointer (some ad2)), (3, .pointer (some ad7)), (4, .pointer (some ad8)), (5, .pointer (some ad9)), (6, .pointer (some ad10)), (20, .int .i64 a0.Kind), (34, .bool v38)] → St [] w0 w [own 76 eA76 (some ad7) 1 [(#v[24, 4, a0.A] : Vector Int 3)], own 76 eA76 (some ad8) 1 [(#v[20, 4, a0.B] : Vector Int 3)], own 76 eA76 (some ad9) 1 [(#v[16, 4, a0.Op] : Vector Int 3)], own 76 eA76 (some ad10) 1 [(#v[24, 4, a0.Op] : Vector Int 3)], own 27 eSapi_Instr (some ad2) 1 [a0]] → isa_word.j1 a0 v38 = some r → K34 a w := by
   intro v38 a w hs hw H
   unfold isa_word.j1 at H
   refine hK34 _ _ ?_
   refine go_cond hs v38 (by kernel_rfl) (fun hc => ?_) (fun hc => ?_)
   ·replace H := ite_t H hc
    have hb39 := hc
    rw [hb39] at hs
    refine go_seq_k fun K40 hK40 => ?_
    refine z_region [0, 1, 2, 3, 4] [5, 6, 7] [] (by kernel_rfl) (by kernel_rfl) (fun c a d v w h => by cases d <;> exact h) ?_
    refine z_pvs [0] [1, 2, 3, 4] [3, 37] hs (L' := [(3, .pointer (some ad7)), (37, .pointer (some ((ad2 : Addr).add 0)))]) (by kernel_rfl) ?_ (by kernel_rfl)
    clear hs; intro a hs
    refine z_run hs (op := (Op.load 3 (Operand.tmp 37))) (ty := 3) (dst := some 38) (g := none) (by kernel_rfl) (by kernel_rfl) (by kernel_rfl) (fun wx hbx => (x_ld (E := eSapi_Instr) (off := 0) (p := (ad2 : Addr).add 0) (v := .int .i64 a0.Kind) ((Rd.of_own (hw.up 4)).below hbx) (one_ok a0).1 (one_ok a0).2 (by kernel_rfl) (one_off _ _ _) (by kernel_rfl) (by kernel_rfl))) [3, 38] (L' := [(3, .pointer (some ad7)), (38, .int .i64 a0.Kind)]) (by kernel_rfl) ?_
    clear hs; intro a hs
    refine z_pvs [2] [3, 4] [3, 39] hs (L' := [(3, .pointer (some ad7)), (39, .bool (a0.Kind == 4))]) (by kernel_rfl) ?_ (by kernel_rfl)
    clear hs; intro a hs
    obtain ⟨t42, hx43, H⟩ := bind_some H
    refine z_call hs (op := (Op.call { callee := (Callee.value (Operand.func 57)), args := #[(Operand.const (Value.int IntKind.i64 0)), (Operand.const (Value.bool true)), (Operand.tmp 39)], argTypes := #[3, 4, 4] })) (ty := 76) (dst := some 40) (g := none) (by kernel_rfl) (by kernel_rfl) (by kernel_rfl) (f := 57) (args := #[.int .i64 0, .bool true, .bool (a0.Kind == 4)]) (v := .agg #[.int .i64 (vx 0 t42 0), .int .i64 (vx 0 t42 1), .int .i64 (vx 0 t42 2)]) (by kernel_rfl) (fun wx hbx => (isa_head.calls 0 true (a0.Kind == 4) t42 _ hx43).mono ?_) [3, 40] (L' := [(3, .pointer (some ad7)), (40, .agg #[.int .i64 (vx 0 t42 0), .int .i64 (vx 0 t42 1), .int .i64 (vx 0 t42 2)])]) (by kernel_rfl) ?_
    · rintro e wy ⟨rfl, hwy⟩
      exact ⟨rfl, below_st hbx hwy⟩
    clear hs; intro a hs
    refine z_run hs (op := (Op.load 76 (Operand.tmp 3))) (ty := 76) (dst := some 41) (g := none) (by kernel_rfl) (by kernel_rfl) (by kernel_rfl) (fun wx hbx => (x_lds (E := eA76) (off := 0) (p := ad7) (cs := [.int .i64 (vx 0 (#v[24, 4, a0.A] : Vector Int 3) 0), .int .i64 (vx 0 (#v[24, 4, a0.A] : Vector Int 3) 1), .int .i64 (vx 0 (#v[24, 4, a0.A] : Vector Int 3) 2)]) ((Rd.of_own (hw.up 0)).below hbx) (one_ok (#v[24, 4, a0.A] : Vector Int 3)).1 (one_ok (#v[24, 4, a0.A] : Vector Int 3)).2 (by kernel_rfl) (one_at _ _) (by kernel_rfl) (by kernel_rfl) (by kernel_rfl))) [40, 41] (L' := [(40, .agg #[.int .i64 (vx 0 t42 0), .int .i64 (vx 0 t42 1), .int .i64 (vx 0 t42 2)]), (41, .agg #[.int .i64 (vx 0 (#v[24, 4, a0.A] : Vector Int 3) 0), .int .i64 (vx 0 (#v[24, 4, a0.A] : Vector Int 3) 1), .int .i64 (vx 0 (#v[24, 4, a0.A] : Vector Int 3) 2)])]) (by kernel_rfl) ?_
    clear hs; intro a hs
    refine z_end ?_
    intro wq hbq
    replace hw := hw.behind hbq
    obtain ⟨Aa44, cc45, wd46, hx47, hw⟩ := n_lit (P := Try.prog) (t := 85) (ty := 85) (T := 76) (len := 2) (parts := #[(0, (Operand.tmp 40)), (1, (Operand.tmp 41))]) (z := .agg #[.int .i64 0, .int .i64 0, .int .i64 0]) (bytes := 24) (cells := #[.int .i64 (vx 0 t42 0), .int .i64 (vx 0 t42 1), .int .i64 (vx 0 t42 2), .int .i64 (vx 0 (#v[24, 4, a0.A] : Vector Int 3) 0), .int .i64 (vx 0 (#v[24, 4, a0.A] : Vector Int 3) 1), .int .i64 (vx 0 (#v[24, 4, a0.A] : Vector Int 3) 2)]) hs hw eA76 ([t42, (#v[24, 4, a0.A] : Vector Int 3)] : List (Vector Int 3)) (by kernel_rfl) (by kernel_rfl) (by kernel_rfl) (by kernel_rfl) (by kernel_rfl) (by kernel_rfl) (by kernel_rfl)
    refine p_run hs (op := (Op.buildSlice 85 2 #[(0, (Operand.tmp 40)), (1, (Operand.tmp 41))])) (ty := 85) (dst := some 42) (g := none) (by kernel_rfl) (by kernel_rfl) (by kernel_rfl) hx47 [42] (L' := [(42, .slice Aa44 ([t42, (#v[24, 4, a0.A] : Vector Int 3)] : List (Vector Int 3)).length cc45)]) (by kernel_rfl) ?_
    clear hs; intro a hs
    obtain ⟨t50, hx51, H⟩ := bind_some H
    refine p_call hs (op := (Op.call { callee := (Callee.value (Operand.func 56)), args := #[(Operand.tmp 42)], argTypes := #[85] })) (ty := 22) (dst := some 43) (g := none) (by kernel_rfl) (by kernel_rfl) (by kernel_rfl) (f := 56) (args := #[.slice Aa44 ([t42, (#v[24, 4, a0.A] : Vector Int 3)] : List (Vector Int 3)).length cc45]) (by kernel_rfl) (isa_lay.calls Aa44 cc45 ([t42, (#v[24, 4, a0.A] : Vector Int 3)] : List (Vector Int 3)) t50 _ (Rd.of_own (hw.up 0)) hx51) ?_
    rintro e wd52 ⟨rfl, hw53⟩
    refine ⟨_, rfl, ?_⟩
    replace hw := hw.call hw53
    intro a hs1
    replace hs : Slots a 97 [(43, .int .u32 t50)] := hs1.keep [43] (by kernel_rfl)
    clear hs1
    refine p_pvs [7] [] [2] hs (L' := [(2, .int .u32 t50)]) (by kernel_rfl) ?_
    clear hs; intro a hs
    refine p_last ?_
    refine e_end ?_
    refine hK40 _ _ ?_
    refine wp_ret ?_
    refine ib_ret ?_
    refine th_ret ?_
    obtain rfl := Option.some.inj H
    refine ret1 (t := 2) (v := .int .u32 t50) hs (by kernel_rfl) (by kernel_rfl) ?_
    exact ⟨rfl, hw.only 0⟩
   ·replace H := ite_f H (ff hc)
    have hb54 := hc
    rw [hb54] at hs
    refine go_seq_k fun K55 hK55 => ?_
    refine go_region ?_
    refine go_pvs 0 2 [1, 3, 4, 5, 6, 20, 44] hs (L' := [(1, .pointer (some ad2)), (3, .pointer (some ad7)), (4, .pointer (some ad8)), (5, .pointer (some ad9)), (6, .pointer (some ad10)), (20, .int .i64 a0.Kind), (44, .bool (a0.Kind == 2))]) (by kernel_rfl) ?_ rfl
    clear hs; intro a hs
    refine go_end (by kernel_rfl) ?_
    refine hK55 _ _ ?_
    refine go_cond hs (a0.Kind == 2) (by kernel_rfl) (fun hc => ?_) (fun hc => ?_)
    ·replace H := ite_t H (beq_iff_eq.1 hc)
     have hb56 := hc
     rw [hb56] at hs
     refine go_seq_k fun K57 hK57 => ?_
     refine z_region [0, 1, 2, 3, 4, 5, 6, 7, 8, 9, 10, 11] [12, 13, 14] [] (by kernel_rfl) (by kernel_rfl) (fun c a d v w h => by cases d <;> exact h) ?_
     refine z_pvs [0] [1, 2, 3, 4, 5, 6, 7, 8, 9, 10, 11] [1, 3, 4, 5, 46] hs (L' := [(1, .pointer (some ad2)), (3, .pointer (some ad7)), (4, .pointer (some ad8)), (5, .pointer (some ad9)), (46, .pointer (some ((ad2 : Addr).add 6)))]) (by kernel_rfl) ?_ (by kernel_rfl)
     clear hs; intro a hs
     refine z_run hs (op := (Op.load 4 (Operand.tmp 46))) (ty := 4) (dst := some 47) (g := none) (by kernel_rfl) (by kernel_rfl) (by kernel_rfl) (fun wx hbx => (x_ld (E := eSapi_Instr) (off := 6) (p := (ad2 : Addr).add 6) (v := .bool a0.U) ((Rd.of_own (hw.up 4)).below hbx) (one_ok a0).1 (one_ok a0).2 (by kernel_rfl) (one_off _ _ _) (by kernel_rfl) (by kernel_rfl))) [1, 3, 4, 5, 47] (L' := [(1, .pointer (some ad2)), (3, .pointer (some ad7)), (4, .pointer (some ad8)), (5, .pointer (some ad9)), (47, .bool a0.U)]) (by kernel_rfl) ?_
     clear hs; intro a hs
     refine z_pvs [2] [3, 4, 5, 6, 7, 8, 9, 10, 11] [1, 3, 4, 5, 47, 48] hs (L' := [(1, .pointer (some ad2)), (3, .pointer (some ad7)), (4, .pointer (some ad8)), (5, .pointer (some ad9)), (47, .bool a0.U), (48, .pointer (some ((ad2 : Addr).add 5)))]) (by kernel_rfl) ?_ (by kernel_rfl)
     clear hs; intro a hs
     refine z_run hs (op := (Op.load 3 (Operand.tmp 48))) (ty := 3) (dst := some 49) (g := none) (by kernel_rfl) (by kernel_rfl) (by kernel_rfl) (fun wx hbx => (x_ld (E := eSapi_Instr) (off := 5) (p := (ad2 : Addr).add 5) (v := .int .i64 a0.Imm) ((Rd.of_own (hw.up 4)).below hbx) (one_ok a0).1 (one_ok a0).2 (by kernel_rfl) (one_off _ _ _) (by kernel_rfl) (by kernel_rfl))) [1, 3, 4, 5, 47, 49] (L' := [(1, .pointer (some ad2)), (3, .pointer (some ad7)), (4, .pointer (some ad8)), (5, .pointer (some ad9)), (47, .bool a0.U), (49, .int .i64 a0.Imm)]) (by kernel_rfl) ?_
     clear hs; intro a hs
     refine z_pvs [4] [5, 6, 7, 8, 9, 10, 11] [1, 3, 4, 5, 47, 50] hs (L' := [(1, .pointer (some ad2)), (3, .pointer (some ad7)), (4, .pointer (some ad8)), (5, .pointer (some ad9)), (47, .bool a0.U), (50, .bool (decide (a0.Imm < 0)))]) (by kernel_rfl) ?_ (by kernel_rfl)
     clear hs; intro a hs
     obtain ⟨t59, hx60, H⟩ := bind_some H
     refine z_call hs (op := (Op.call { callee := (Callee.value (Operand.func 57)), args := #[(Operand.const (Value.int IntKind.i64 1)), (Operand.tmp 47), (Operand.tmp 50)], argTypes := #[3, 4, 4] })) (ty := 76) (dst := some 51) (g := none) (by kernel_rfl) (by kernel_rfl) (by kernel_rfl) (f := 57) (args := #[.int .i64 1, .bool a0.U, .bool (decide (a0.Imm < 0))]) (v := .agg #[.int .i64 (vx 0 t59 0), .int .i64 (vx 0 t59 1), .int .i64 (vx 0 t59 2)]) (by kernel_rfl) (fun wx hbx => (isa_head.calls 1 a0.U (decide (a0.Imm < 0)) t59 _ hx60).mono ?_) [1, 3, 4, 5, 51] (L' := [(1, .pointer (some ad2)), (3, .pointer (some ad7)), (4, .pointer (some ad8)), (5, .pointer (some ad9)), (51, .agg #[.int .i64 (vx 0 t59 0), .int .i64 (vx 0 t59 1), .int .i64 (vx 0 t59 2)])]) (by kernel_rfl) ?_
     · rintro e wy ⟨rfl, hwy⟩
       exact ⟨rfl, below_st hbx hwy⟩
     clear hs; intro a hs
     refine z_run hs (op := (Op.load 76 (Operand.tmp 3))) (ty := 76) (dst := some 52) (g := none) (by kernel_rfl) (by kernel_rfl) (by kernel_rfl) (fun wx hbx => (x_lds (E := eA76) (off := 0) (p := ad7) (cs := [.int .i64 (vx 0 (#v[24, 4, a0.A] : Vector Int 3) 0), .int .i64 (vx 0 (#v[24, 4, a0.A] : Vector Int 3) 1), .int .i64 (vx 0 (#v[24, 4, a0.A] : Vector Int 3) 2)]) ((Rd.of_own (hw.up 0)).below hbx) (one_ok (#v[24, 4, a0.A] : Vector Int 3)).1 (one_ok (#v[24, 4, a0.A] : Vector Int 3)).2 (by kernel_rfl) (one_at _ _) (by kernel_rfl) (by kernel_rfl) (by kernel_rfl))) [1, 4, 5, 51, 52] (L' := [(1, .pointer (some ad2)), (4, .pointer (some ad8)), (5, .pointer (some ad9)), (51, .agg #[.int .i64 (vx 0 t59 0), .int .i64 (vx 0 t59 1), .int .i64 (vx 0 t59 2)]), (52, .agg #[.int .i64 (vx 0 (#v[24, 4, a0.A] : Vector Int 3) 0), .int .i64 (vx 0 (#v[24, 4, a0.A] : Vector Int 3) 1), .int .i64 (vx 0 (#v[24, 4, a0.A] : Vector Int 3) 2)])]) (by kernel_rfl) ?_
     clear hs; intro a hs
     refine z_run hs (op := (Op.load 76 (Operand.tmp 4))) (ty := 76) (dst := some 53) (g := none) (by kernel_rfl) (by kernel_rfl) (by kernel_rfl) (fun wx hbx => (x_lds (E := eA76) (off := 0) (p := ad8) (cs := [.int .i64 (vx 0 (#v[20, 4, a0.B] : Vector Int 3) 0), .int .i64 (vx 0 (#v[20, 4, a0.B] : Vector Int 3) 1), .int .i64 (vx 0 (#v[20, 4, a0.B] : Vector Int 3) 2)]) ((Rd.of_own (hw.up 1)).below hbx) (one_ok (#v[20, 4, a0.B] : Vector Int 3)).1 (one_ok (#v[20, 4, a0.B] : Vector Int 3)).2 (by kernel_rfl) (one_at _ _) (by kernel_rfl) (by kernel_rfl) (by kernel_rfl))) [1, 5, 51, 52, 53] (L' := [(1, .pointer (some ad2)), (5, .pointer (some ad9)), (51, .agg #[.int .i64 (vx 0 t59 0), .int .i64 (vx 0 t59 1), .int .i64 (vx 0 t59 2)]), (52, .agg #[.int .i64 (vx 0 (#v[24, 4, a0.A] : Vector Int 3) 0), .int .i64 (vx 0 (#v[24, 4, a0.A] : Vector Int 3) 1), .int .i64 (vx 0 (#v[24, 4, a0.A] : Vector Int 3) 2)]), (53, .agg #[.int .i64 (vx 0 (#v[20, 4, a0.B] : Vector Int 3) 0), .int .i64 (vx 0 (#v[20, 4, a0.B] : Vector Int 3) 1), .int .i64 (vx 0 (#v[20, 4, a0.B] : Vector Int 3) 2)])]) (by kernel_rfl) ?_
     clear hs; intro a hs
     refine z_run hs (op := (Op.load 76 (Operand.tmp 5))) (ty := 76) (dst := some 54) (g := none) (by kernel_rfl) (by kernel_rfl) (by kernel_rfl) (fun wx hbx => (x_lds (E := eA76) (off := 0) (p := ad9) (cs := [.int .i64 (vx 0 (#v[16, 4, a0.Op] : Vector Int 3) 0), .int .i64 (vx 0 (#v[16, 4, a0.Op] : Vector Int 3) 1), .int .i64 (vx 0 (#v[16, 4, a0.Op] : Vector Int 3) 2)]) ((Rd.of_own (hw.up 2)).below hbx) (one_ok (#v[16, 4, a0.Op] : Vector Int 3)).1 (one_ok (#v[16, 4, a0.Op] : Vector Int 3)).2 (by kernel_rfl) (one_at _ _) (by kernel_rfl) (by kernel_rfl) (by kernel_rfl))) [1, 51, 52, 53, 54] (L' := [(1, .pointer (some ad2)), (51, .agg #[.int .i64 (vx 0 t59 0), .int .i64 (vx 0 t59 1), .int .i64 (vx 0 t59 2)]), (52, .agg #[.int .i64 (vx 0 (#v[24, 4, a0.A] : Vector Int 3) 0), .int .i64 (vx 0 (#v[24, 4, a0.A] : Vector Int 3) 1), .int .i64 (vx 0 (#v[24, 4, a0.A] : Vector Int 3) 2)]), (53, .agg #[.int .i64 (vx 0 (#v[20, 4, a0.B] : Vector Int 3) 0), .int .i64 (vx 0 (#v[20, 4, a0.B] : Vector Int 3) 1), .int .i64 (vx 0 (#v[20, 4, a0.B] : Vector Int 3) 2)]), (54, .agg #[.int .i64 (vx 0 (#v[16, 4, a0.Op] : Vector Int 3) 0), .int .i64 (vx 0 (#v[16, 4, a0.Op] : Vector Int 3) 1), .int .i64 (vx 0 (#v[16, 4, a0.Op] : Vector Int 3) 2)])]) (by kernel_rfl) ?_
     clear hs; intro a hs
     refine z_pvs [9] [10, 11] [51, 52, 53, 54, 55] hs (L' := [(51, .agg #[.int .i64 (vx 0 t59 0), .int .i64 (vx 0 t59 1), .int .i64 (vx 0 t59 2)]), (52, .agg #[.int .i64 (vx 0 (#v[24, 4, a0.A] : Vector Int 3) 0), .int .i64 (vx 0 (#v[24, 4, a0.A] : Vector Int 3) 1), .int .i64 (vx 0 (#v[24, 4, a0.A] : Vector Int 3) 2)]), (53, .agg #[.int .i64 (vx 0 (#v[20, 4, a0.B] : Vector Int 3) 0), .int .i64 (vx 0 (#v[20, 4, a0.B] : Vector Int 3) 1), .int .i64 (vx 0 (#v[20, 4, a0.B] : Vector Int 3) 2)]), (54, .agg #[.int .i64 (vx 0 (#v[16, 4, a0.Op] : Vector Int 3) 0), .int .i64 (vx 0 (#v[16, 4, a0.Op] : Vector Int 3) 1), .int .i64 (vx 0 (#v[16, 4, a0.Op] : Vector Int 3) 2)]), (55, .pointer (some ((ad2 : Addr).add 5)))]) (by kernel_rfl) ?_ (by kernel_rfl)
     clear hs; intro a hs
     refine z_run hs (op := (Op.load 3 (Operand.tmp 55))) (ty := 3) (dst := some 56) (g := none) (by kernel_rfl) (by kernel_rfl) (by kernel_rfl) (fun wx hbx => (x_ld (E := eSapi_Instr) (off := 5) (p := (ad2 : Addr).add 5) (v := .int .i64 a0.Imm) ((Rd.of_own (hw.up 4)).below hbx) (one_ok a0).1 (one_ok a0).2 (by kernel_rfl) (one_off _ _ _) (by kernel_rfl) (by kernel_rfl))) [51, 52, 53, 54, 56] (L' := [(51, .agg #[.int .i64 (vx 0 t59 0), .int .i64 (vx 0 t59 1), .int .i64 (vx 0 t59 2)]), (52, .agg #[.int .i64 (vx 0 (#v[24, 4, a0.A] : Vector Int 3) 0), .int .i64 (vx 0 (#v[24, 4, a0.A] : Vector Int 3) 1), .int .i64 (vx 0 (#v[24, 4, a0.A] : Vector Int 3) 2)]), (53, .agg #[.int .i64 (vx 0 (#v[20, 4, a0.B] : Vector Int 3) 0), .int .i64 (vx 0 (#v[20, 4, a0.B] : Vector Int 3) 1), .int .i64 (vx 0 (#v[20, 4, a0.B] : Vector Int 3) 2)]), (54, .agg #[.int .i64 (vx 0 (#v[16, 4, a0.Op] : Vector Int 3) 0), .int .i64 (vx 0 (#v[16, 4, a0.Op] : Vector Int 3) 1), .int .i64 (vx 0 (#v[16, 4, a0.Op] : Vector Int 3) 2)]), (56, .int .i64 a0.Imm)]) (by kernel_rfl) ?_
     clear hs; intro a hs
     refine z_pvs [11] [] [51, 52, 53, 54, 57] hs (L' := [(51, .agg #[.int .i64 (vx 0 t59 0), .int .i64 (vx 0 t59 1), .int .i64 (vx 0 t59 2)]), (52, .agg #[.int .i64 (vx 0 (#v[24, 4, a0.A] : Vector Int 3) 0), .int .i64 (vx 0 (#v[24, 4, a0.A] : Vector Int 3) 1), .int .i64 (vx 0 (#v[24, 4, a0.A] : Vector Int 3) 2)]), (53, .agg #[.int .i64 (vx 0 (#v[20, 4, a0.B] : Vector Int 3) 0), .int .i64 (vx 0 (#v[20, 4, a0.B] : Vector Int 3) 1), .int .i64 (vx 0 (#v[20, 4, a0.B] : Vector Int 3) 2)]), (54, .agg #[.int .i64 (vx 0 (#v[16, 4, a0.Op] : Vector Int 3) 0), .int .i64 (vx 0 (#v[16, 4, a0.Op] : Vector Int 3) 1), .int .i64 (vx 0 (#v[16, 4, a0.Op] : Vector Int 3) 2)]), (57, .agg #[.int .i64 0, .int .i64 16, .int .i64 a0.Imm])]) (by kernel_rfl) ?_ (by kernel_rfl)
     clear hs; intro a hs
     refine z_end ?_
     intro wq hbq
     replace hw := hw.behind hbq
     obtain ⟨Aa61, cc62, wd63, hx64, hw⟩ := n_lit (P := Try.prog) (t := 85) (ty := 85) (T := 76) (len := 5) (parts := #[(0, (Operand.tmp 51)), (1, (Operand.tmp 52)), (2, (Operand.tmp 53)), (3, (Operand.tmp 54)), (4, (Operand.tmp 57))]) (z := .agg #[.int .i64 0, .int .i64 0, .int .i64 0]) (bytes := 24) (cells := #[.int .i64 (vx 0 t59 0), .int .i64 (vx 0 t59 1), .int .i64 (vx 0 t59 2), .int .i64 (vx 0 (#v[24, 4, a0.A] : Vector Int 3) 0), .int .i64 (vx 0 (#v[24, 4, a0.A] : Vector Int 3) 1), .int .i64 (vx 0 (#v[24, 4, a0.A] : Vector Int 3) 2), .int .i64 (vx 0 (#v[20, 4, a0.B] : Vector Int 3) 0), .int .i64 (vx 0 (#v[20, 4, a0.B] : Vector Int 3) 1), .int .i64 (vx 0 (#v[20, 4, a0.B] : Vector Int 3) 2), .int .i64 (vx 0 (#v[16, 4, a0.Op] : Vector Int 3) 0), .int .i64 (vx 0 (#v[16, 4, a0.Op] : Vector Int 3) 1), .int .i64 (vx 0 (#v[16, 4, a0.Op] : Vector Int 3) 2), .int .i64 0, .int .i64 16, .int .i64 a0.Imm]) hs hw eA76 ([t59, (#v[24, 4, a0.A] : Vector Int 3), (#v[20, 4, a0.B] : Vector Int 3), (#v[16, 4, a0.Op] : Vector Int 3), (#v[0, 16, a0.Imm] : Vector Int 3)] : List (Vector Int 3)) (by kernel_rfl) (by kernel_rfl) (by kernel_rfl) (by kernel_rfl) (by kernel_rfl) (by kernel_rfl) (by kernel_rfl)
     refine p_run hs (op := (Op.buildSlice 85 5 #[(0, (Operand.tmp 51)), (1, (Operand.tmp 52)), (2, (Operand.tmp 53)), (3, (Operand.tmp 54)), (4, (Operand.tmp 57))])) (ty := 85) (dst := some 58) (g := none) (by kernel_rfl) (by kernel_rfl) (by kernel_rfl) hx64 [58] (L' := [(58, .slice Aa61 ([t59, (#v[24, 4, a0.A] : Vector Int 3), (#v[20, 4, a0.B] : Vector Int 3), (#v[16, 4, a0.Op] : Vector Int 3), (#v[0, 16, a0.Imm] : Vector Int 3)] : List (Vector Int 3)).length cc62)]) (by kernel_rfl) ?_
     clear hs; intro a hs
     obtain ⟨t67, hx68, H⟩ := bind_some H
     refine p_call hs (op := (Op.call { callee := (Callee.value (Operand.func 56)), args := #[(Operand.tmp 58)], argTypes := #[85] })) (ty := 22) (dst := some 59) (g := none) (by kernel_rfl) (by kernel_rfl) (by kernel_rfl) (f := 56) (args := #[.slice Aa61 ([t59, (#v[24, 4, a0.A] : Vector Int 3), (#v[20, 4, a0.B] : Vector Int 3), (#v[16, 4, a0.Op] : Vector Int 3), (#v[0, 16, a0.Imm] : Vector Int 3)] : List (Vector Int 3)).length cc62]) (by kernel_rfl) (isa_lay.calls Aa61 cc62 ([t59, (#v[24, 4, a0.A] : Vector Int 3), (#v[20, 4, a0.B] : Vector Int 3), (#v[16, 4, a0.Op] : Vector Int 3), (#v[0, 16, a0.Imm] : Vector Int 3)] : List (Vector Int 3)) t67 _ (Rd.of_own (hw.up 0)) hx68) ?_
     rintro e wd69 ⟨rfl, hw70⟩
     refine ⟨_, rfl, ?_⟩
     replace hw := hw.call hw70
     intro a hs1
     replace hs : Slots a 97 [(59, .int .u32 t67)] := hs1.keep [59] (by kernel_rfl)
     clear hs1
     refine p_pvs [14] [] [2] hs (L' := [(2, .int .u32 t67)]) (by kernel_rfl) ?_
     clear hs; intro a hs
     refine p_last ?_
     refine e_end ?_
     refine hK57 _ _ ?_
     refine wp_ret ?_
     refine ib_ret ?_
     refine th_ret ?_
     obtain rfl := Option.some.inj H
     refine ret1 (t := 2) (v := .int .u32 t67) hs (by kernel_rfl) (by kernel_rfl) ?_
     exact ⟨rfl, hw.only 0⟩
    ·replace H := ite_f H (beq_eq_false_iff_ne.1 hc)
     have hb71 := hc
     rw [hb71] at hs
     refine go_seq_k fun K72 hK72 => ?_
     refine go_region ?_
     refine go_pvs 0 2 [1, 3, 4, 6, 20, 60] hs (L' := [(1, .pointer (some ad2)), (3, .pointer (some ad7)), (4, .pointer (some ad8)), (6, .pointer (some ad10)), (20, .int .i64 a0.Kind), (60, .bool (a0.Kind == 5))]) (by kernel_rfl) ?_ rfl
     clear hs; intro a hs
     refine go_end (by kernel_rfl) ?_
     refine hK72 _ _ ?_
     refine go_cond hs (a0.Kind == 5) (by kernel_rfl) (fun hc => ?_) (fun hc => ?_)
     ·replace H := ite_t H (beq_iff_eq.1 hc)
      have hb73 := hc
      rw [hb73] at hs
      refine go_seq_k fun K74 hK74 => ?_
      refine z_region [0, 1, 2, 3, 4, 5, 6, 7, 8, 9, 10, 11, 12] [13, 14, 15] [] (by kernel_rfl) (by kernel_rfl) (fun c a d v w h => by cases d <;> exact h) ?_
      refine z_pvs [0] [1, 2, 3, 4, 5, 6, 7, 8, 9, 10, 11, 12] [1, 3, 4, 62] hs (L' := [(1, .pointer (some ad2)), (3, .pointer (some ad7)), (4, .pointer (some ad8)), (62, .pointer (some ((ad2 : Addr).add 1)))]) (by kernel_rfl) ?_ (by kernel_rfl)
      clear hs; intro a hs
      refine z_run hs (op := (Op.load 3 (Operand.tmp 62))) (ty := 3) (dst := some 63) (g := none) (by kernel_rfl) (by kernel_rfl) (by kernel_rfl) (fun wx hbx => (x_ld (E := eSapi_Instr) (off := 1) (p := (ad2 : Addr).add 1) (v := .int .i64 a0.Op) ((Rd.of_own (hw.up 4)).below hbx) (one_ok a0).1 (one_ok a0).2 (by kernel_rfl) (one_off _ _ _) (by kernel_rfl) (by kernel_rfl))) [1, 3, 4, 63] (L' := [(1, .pointer (some ad2)), (3, .pointer (some ad7)), (4, .pointer (some ad8)), (63, .int .i64 a0.Op)]) (by kernel_rfl) ?_
      clear hs; intro a hs
      refine z_pvs [2, 3] [4, 5, 6, 7, 8, 9, 10, 11, 12] [1, 3, 4, 64, 65] hs (L' := [(1, .pointer (some ad2)), (3, .pointer (some ad7)), (4, .pointer (some ad8)), (64, .bool (decide (a0.Op ≥ 2))), (65, .pointer (some ((ad2 : Addr).add 1)))]) (by kernel_rfl) ?_ (by kernel_rfl)
      clear hs; intro a hs
      refine z_run hs (op := (Op.load 3 (Operand.tmp 65))) (ty := 3) (dst := some 66) (g := none) (by kernel_rfl) (by kernel_rfl) (by kernel_rfl) (fun wx hbx => (x_ld (E := eSapi_Instr) (off := 1) (p := (ad2 : Addr).add 1) (v := .int .i64 a0.Op) ((Rd.of_own (hw.up 4)).below hbx) (one_ok a0).1 (one_ok a0).2 (by kernel_rfl) (one_off _ _ _) (by kernel_rfl) (by kernel_rfl))) [1, 3, 4, 64, 66] (L' := [(1, .pointer (some ad2)), (3, .pointer (some ad7)), (4, .pointer (some ad8)), (64, .bool (decide (a0.Op ≥ 2))), (66, .int .i64 a0.Op)]) (by kernel_rfl) ?_
      clear hs; intro a hs
      refine z_pvs [5, 6] [7, 8, 9, 10, 11, 12] [1, 3, 4, 64, 68] hs (L' := [(1, .pointer (some ad2)), (3, .pointer (some ad7)), (4, .pointer (some ad8)), (64, .bool (decide (a0.Op ≥ 2))), (68, .bool ((a0.Op.tmod 2) == 1))]) (by kernel_rfl) ?_ (by kernel_rfl)
      clear hs; intro a hs
      obtain ⟨t76, hx77, H⟩ := bind_some H
      refine z_call hs (op := (Op.call { callee := (Callee.value (Operand.func 57)), args := #[(Operand.const (Value.int IntKind.i64 2)), (Operand.tmp 64), (Operand.tmp 68)], argTypes := #[3, 4, 4] })) (ty := 76) (dst := some 69) (g := none) (by kernel_rfl) (by kernel_rfl) (by kernel_rfl) (f := 57) (args := #[.int .i64 2, .bool (decide (a0.Op ≥ 2)), .bool ((a0.Op.tmod 2) == 1)]) (v := .agg #[.int .i64 (vx 0 t76 0), .int .i64 (vx 0 t76 1), .int .i64 (vx 0 t76 2)]) (by kernel_rfl) (fun wx hbx => (isa_head.calls 2 (decide (a0.Op ≥ 2)) ((a0.Op.tmod 2) == 1) t76 _ hx77).mono ?_) [1, 3, 4, 69] (L' := [(1, .pointer (some ad2)), (3, .pointer (some ad7)), (4, .pointer (some ad8)), (69, .agg #[.int .i64 (vx 0 t76 0), .int .i64 (vx 0 t76 1), .int .i64 (vx 0 t76 2)])]) (by kernel_rfl) ?_
      · rintro e wy ⟨rfl, hwy⟩
        exact ⟨rfl, below_st hbx hwy⟩
      clear hs; intro a hs
      refine z_run hs (op := (Op.load 76 (Operand.tmp 3))) (ty := 76) (dst := some 70) (g := none) (by kernel_rfl) (by kernel_rfl) (by kernel_rfl) (fun wx hbx => (x_lds (E := eA76) (off := 0) (p := ad7) (cs := [.int .i64 (vx 0 (#v[24, 4, a0.A] : Vector Int 3) 0), .int .i64 (vx 0 (#v[24, 4, a0.A] : Vector Int 3) 1), .int .i64 (vx 0 (#v[24, 4, a0.A] : Vector Int 3) 2)]) ((Rd.of_own (hw.up 0)).below hbx) (one_ok (#v[24, 4, a0.A] : Vector Int 3)).1 (one_ok (#v[24, 4, a0.A] : Vector Int 3)).2 (by kernel_rfl) (one_at _ _) (by kernel_rfl) (by kernel_rfl) (by kernel_rfl))) [1, 4, 69, 70] (L' := [(1, .pointer (some ad2)), (4, .pointer (some ad8)), (69, .agg #[.int .i64 (vx 0 t76 0), .int .i64 (vx 0 t76 1), .int .i64 (vx 0 t76 2)]), (70, .agg #[.int .i64 (vx 0 (#v[24, 4, a0.A] : Vector Int 3) 0), .int .i64 (vx 0 (#v[24, 4, a0.A] : Vector Int 3) 1), .int .i64 (vx 0 (#v[24, 4, a0.A] : Vector Int 3) 2)])]) (by kernel_rfl) ?_
      clear hs; intro a hs
      refine z_run hs (op := (Op.load 76 (Operand.tmp 4))) (ty := 76) (dst := some 71) (g := none) (by kernel_rfl) (by kernel_rfl) (by kernel_rfl) (fun wx hbx => (x_lds (E := eA76) (off := 0) (p := ad8) (cs := [.int .i64 (vx 0 (#v[20, 4, a0.B] : Vector Int 3) 0), .int .i64 (vx 0 (#v[20, 4, a0.B] : Vector Int 3) 1), .int .i64 (vx 0 (#v[20, 4, a0.B] : Vector Int 3) 2)]) ((Rd.of_own (hw.up 1)).below hbx) (one_ok (#v[20, 4, a0.B] : Vector Int 3)).1 (one_ok (#v[20, 4, a0.B] : Vector Int 3)).2 (by kernel_rfl) (one_at _ _) (by kernel_rfl) (by kernel_rfl) (by kernel_rfl))) [1, 69, 70, 71] (L' := [(1, .pointer (some ad2)), (69, .agg #[.int .i64 (vx 0 t76 0), .int .i64 (vx 0 t76 1), .int .i64 (vx 0 t76 2)]), (70, .agg #[.int .i64 (vx 0 (#v[24, 4, a0.A] : Vector Int 3) 0), .int .i64 (vx 0 (#v[24, 4, a0.A] : Vector Int 3) 1), .int .i64 (vx 0 (#v[24, 4, a0.A] : Vector Int 3) 2)]), (71, .agg #[.int .i64 (vx 0 (#v[20, 4, a0.B] : Vector Int 3) 0), .int .i64 (vx 0 (#v[20, 4, a0.B] : Vector Int 3) 1), .int .i64 (vx 0 (#v[20, 4, a0.B] : Vector Int 3) 2)])]) (by kernel_rfl) ?_
      clear hs; intro a hs
      refine z_pvs [10] [11, 12] [69, 70, 71, 72] hs (L' := [(69, .agg #[.int .i64 (vx 0 t76 0), .int .i64 (vx 0 t76 1), .int .i64 (vx 0 t76 2)]), (70, .agg #[.int .i64 (vx 0 (#v[24, 4, a0.A] : Vector Int 3) 0), .int .i64 (vx 0 (#v[24, 4, a0.A] : Vector Int 3) 1), .int .i64 (vx 0 (#v[24, 4, a0.A] : Vector Int 3) 2)]), (71, .agg #[.int .i64 (vx 0 (#v[20, 4, a0.B] : Vector Int 3) 0), .int .i64 (vx 0 (#v[20, 4, a0.B] : Vector Int 3) 1), .int .i64 (vx 0 (#v[20, 4, a0.B] : Vector Int 3) 2)]), (72, .pointer (some ((ad2 : Addr).add 5)))]) (by kernel_rfl) ?_ (by kernel_rfl)
      clear hs; intro a hs
      refine z_run hs (op := (Op.load 3 (Operand.tmp 72))) (ty := 3) (dst := some 73) (g := none) (by kernel_rfl) (by kernel_rfl) (by kernel_rfl) (fun wx hbx => (x_ld (E := eSapi_Instr) (off := 5) (p := (ad2 : Addr).add 5) (v := .int .i64 a0.Imm) ((Rd.of_own (hw.up 4)).below hbx) (one_ok a0).1 (one_ok a0).2 (by kernel_rfl) (one_off _ _ _) (by kernel_rfl) (by kernel_rfl))) [69, 70, 71, 73] (L' := [(69, .agg #[.int .i64 (vx 0 t76 0), .int .i64 (vx 0 t76 1), .int .i64 (vx 0 t76 2)]), (70, .agg #[.int .i64 (vx 0 (#v[24, 4, a0.A] : Vector Int 3) 0), .int .i64 (vx 0 (#v[24, 4, a0.A] : Vector Int 3) 1), .int .i64 (vx 0 (#v[24, 4, a0.A] : Vector Int 3) 2)]), (71, .agg #[.int .i64 (vx 0 (#v[20, 4, a0.B] : Vector Int 3) 0), .int .i64 (vx 0 (#v[20, 4, a0.B] : Vector Int 3) 1), .int .i64 (vx 0 (#v[20, 4, a0.B] : Vector Int 3) 2)]), (73, .int .i64 a0.Imm)]) (by kernel_rfl) ?_
      clear hs; intro a hs
      refine z_pvs [12] [] [69, 70, 71, 74] hs (L' := [(69, .agg #[.int .i64 (vx 0 t76 0), .int .i64 (vx 0 t76 1), .int .i64 (vx 0 t76 2)]), (70, .agg #[.int .i64 (vx 0 (#v[24, 4, a0.A] : Vector Int 3) 0), .int .i64 (vx 0 (#v[24, 4, a0.A] : Vector Int 3) 1), .int .i64 (vx 0 (#v[24, 4, a0.A] : Vector Int 3) 2)]), (71, .agg #[.int .i64 (vx 0 (#v[20, 4, a0.B] : Vector Int 3) 0), .int .i64 (vx 0 (#v[20, 4, a0.B] : Vector Int 3) 1), .int .i64 (vx 0 (#v[20, 4, a0.B] : Vector Int 3) 2)]), (74, .agg #[.int .i64 0, .int .i64 20, .int .i64 a0.Imm])]) (by kernel_rfl) ?_ (by kernel_rfl)
      clear hs; intro a hs
      refine z_end ?_
      intro wq hbq
      replace hw := hw.behind hbq
      obtain ⟨Aa78, cc79, wd80, hx81, hw⟩ := n_lit (P := Try.prog) (t := 85) (ty := 85) (T := 76) (len := 4) (parts := #[(0, (Operand.tmp 69)), (1, (Operand.tmp 70)), (2, (Operand.tmp 71)), (3, (Operand.tmp 74))]) (z := .agg #[.int .i64 0, .int .i64 0, .int .i64 0]) (bytes := 24) (cells := #[.int .i64 (vx 0 t76 0), .int .i64 (vx 0 t76 1), .int .i64 (vx 0 t76 2), .int .i64 (vx 0 (#v[24, 4, a0.A] : Vector Int 3) 0), .int .i64 (vx 0 (#v[24, 4, a0.A] : Vector Int 3) 1), .int .i64 (vx 0 (#v[24, 4, a0.A] : Vector Int 3) 2), .int .i64 (vx 0 (#v[20, 4, a0.B] : Vector Int 3) 0), .int .i64 (vx 0 (#v[20, 4, a0.B] : Vector Int 3) 1), .int .i64 (vx 0 (#v[20, 4, a0.B] : Vector Int 3) 2), .int .i64 0, .int .i64 20, .int .i64 a0.Imm]) hs hw eA76 ([t76, (#v[24, 4, a0.A] : Vector Int 3), (#v[20, 4, a0.B] : Vector Int 3), (#v[0, 20, a0.Imm] : Vector Int 3)] : List (Vector Int 3)) (by kernel_rfl) (by kernel_rfl) (by kernel_rfl) (by kernel_rfl) (by kernel_rfl) (by kernel_rfl) (by kernel_rfl)
      refine p_run hs (op := (Op.buildSlice 85 4 #[(0, (Operand.tmp 69)), (1, (Operand.tmp 70)), (2, (Operand.tmp 71)), (3, (Operand.tmp 74))])) (ty := 85) (dst := some 75) (g := none) (by kernel_rfl) (by kernel_rfl) (by kernel_rfl) hx81 [75] (L' := [(75, .slice Aa78 ([t76, (#v[24, 4, a0.A] : Vector Int 3), (#v[20, 4, a0.B] : Vector Int 3), (#v[0, 20, a0.Imm] : Vector Int 3)] : List (Vector Int 3)).length cc79)]) (by kernel_rfl) ?_
      clear hs; intro a hs
      obtain ⟨t84, hx85, H⟩ := bind_some H
      refine p_call hs (op := (Op.call { callee := (Callee.value (Operand.func 56)), args := #[(Operand.tmp 75)], argTypes := #[85] })) (ty := 22) (dst := some 76) (g := none) (by kernel_rfl) (by kernel_rfl) (by kernel_rfl) (f := 56) (args := #[.slice Aa78 ([t76, (#v[24, 4, a0.A] : Vector Int 3), (#v[20, 4, a0.B] : Vector Int 3), (#v[0, 20, a0.Imm] : Vector Int 3)] : List (Vector Int 3)).length cc79]) (by kernel_rfl) (isa_lay.calls Aa78 cc79 ([t76, (#v[24, 4, a0.A] : Vector Int 3), (#v[20, 4, a0.B] : Vector Int 3), (#v[0, 20, a0.Imm] : Vector Int 3)] : List (Vector Int 3)) t84 _ (Rd.of_own (hw.up 0)) hx85) ?_
      rintro e wd86 ⟨rfl, hw87⟩
      refine ⟨_, rfl, ?_⟩
      replace hw := hw.call hw87
      intro a hs1
      replace hs : Slots a 97 [(76, .int .u32 t84)] := hs1.keep [76] (by kernel_rfl)
      clear hs1
      refine p_pvs [15] [] [2] hs (L' := [(2, .int .u32 t84)]) (by kernel_rfl) ?_
      clear hs; intro a hs
      refine p_last ?_
      refine e_end ?_
      refine hK74 _ _ ?_
      refine wp_ret ?_
      refine ib_ret ?_
      refine th_ret ?_
      obtain rfl := Option.some.inj H
      refine ret1 (t := 2) (v := .int .u32 t84) hs (by kernel_rfl) (by kernel_rfl) ?_
      exact ⟨rfl, hw.only 0⟩
     ·replace H := ite_f H (beq_eq_false_iff_ne.1 hc)
      have hb88 := hc
      rw [hb88] at hs
      refine go_seq_k fun K89 hK89 => ?_
      refine go_region ?_
      refine go_pvs 0 2 [1, 6, 77] hs (L' := [(1, .pointer (some ad2)), (6, .pointer (some ad10)), (77, .bool (a0.Kind == 6))]) (by kernel_rfl) ?_ rfl
      clear hs; intro a hs
      refine go_end (by kernel_rfl) ?_
      refine hK89 _ _ ?_
      refine go_cond hs (a0.Kind == 6) (by kernel_rfl) (fun hc => ?_) (fun hc => ?_)
      ·replace H := ite_t H (beq_iff_eq.1 hc)
       have hb90 := hc
       rw [hb90] at hs
       refine go_seq_k fun K91 hK91 => ?_
       refine z_region [0, 1, 2, 3, 4, 5, 6] [7, 8, 9] [] (by kernel_rfl) (by kernel_rfl) (fun c a d v w h => by cases d <;> exact h) ?_
       refine z_pvs [0] [1, 2, 3, 4, 5, 6] [1, 6, 79] hs (L' := [(1, .pointer (some ad2)), (6, .pointer (some ad10)), (79, .pointer (some ((ad2 : Addr).add 6)))]) (by kernel_rfl) ?_ (by kernel_rfl)
       clear hs; intro a hs
       refine z_run hs (op := (Op.load 4 (Operand.tmp 79))) (ty := 4) (dst := some 80) (g := none) (by kernel_rfl) (by kernel_rfl) (by kernel_rfl) (fun wx hbx => (x_ld (E := eSapi_Instr) (off := 6) (p := (ad2 : Addr).add 6) (v := .bool a0.U) ((Rd.of_own (hw.up 4)).below hbx) (one_ok a0).1 (one_ok a0).2 (by kernel_rfl) (one_off _ _ _) (by kernel_rfl) (by kernel_rfl))) [1, 6, 80] (L' := [(1, .pointer (some ad2)), (6, .pointer (some ad10)), (80, .bool a0.U)]) (by kernel_rfl) ?_
       clear hs; intro a hs
       obtain ⟨t93, hx94, H⟩ := bind_some H
       refine z_call hs (op := (Op.call { callee := (Callee.value (Operand.func 57)), args := #[(Operand.const (Value.int IntKind.i64 3)), (Operand.const (Value.bool false)), (Operand.tmp 80)], argTypes := #[3, 4, 4] })) (ty := 76) (dst := some 81) (g := none) (by kernel_rfl) (by kernel_rfl) (by kernel_rfl) (f := 57) (args := #[.int .i64 3, .bool false, .bool a0.U]) (v := .agg #[.int .i64 (vx 0 t93 0), .int .i64 (vx 0 t93 1), .int .i64 (vx 0 t93 2)]) (by kernel_rfl) (fun wx hbx => (isa_head.calls 3 false a0.U t93 _ hx94).mono ?_) [1, 6, 81] (L' := [(1, .pointer (some ad2)), (6, .pointer (some ad10)), (81, .agg #[.int .i64 (vx 0 t93 0), .int .i64 (vx 0 t93 1), .int .i64 (vx 0 t93 2)])]) (by kernel_rfl) ?_
       · rintro e wy ⟨rfl, hwy⟩
         exact ⟨rfl, below_st hbx hwy⟩
       clear hs; intro a hs
       refine z_run hs (op := (Op.load 76 (Operand.tmp 6))) (ty := 76) (dst := some 82) (g := none) (by kernel_rfl) (by kernel_rfl) (by kernel_rfl) (fun wx hbx => (x_lds (E := eA76) (off := 0) (p := ad10) (cs := [.int .i64 (vx 0 (#v[24, 4, a0.Op] : Vector Int 3) 0), .int .i64 (vx 0 (#v[24, 4, a0.Op] : Vector Int 3) 1), .int .i64 (vx 0 (#v[24, 4, a0.Op] : Vector Int 3) 2)]) ((Rd.of_own (hw.up 3)).below hbx) (one_ok (#v[24, 4, a0.Op] : Vector Int 3)).1 (one_ok (#v[24, 4, a0.Op] : Vector Int 3)).2 (by kernel_rfl) (one_at _ _) (by kernel_rfl) (by kernel_rfl) (by kernel_rfl))) [1, 81, 82] (L' := [(1, .pointer (some ad2)), (81, .agg #[.int .i64 (vx 0 t93 0), .int .i64 (vx 0 t93 1), .int .i64 (vx 0 t93 2)]), (82, .agg #[.int .i64 (vx 0 (#v[24, 4, a0.Op] : Vector Int 3) 0), .int .i64 (vx 0 (#v[24, 4, a0.Op] : Vector Int 3) 1), .int .i64 (vx 0 (#v[24, 4, a0.Op] : Vector Int 3) 2)])]) (by kernel_rfl) ?_
       clear hs; intro a hs
       refine z_pvs [4] [5, 6] [81, 82, 83] hs (L' := [(81, .agg #[.int .i64 (vx 0 t93 0), .int .i64 (vx 0 t93 1), .int .i64 (vx 0 t93 2)]), (82, .agg #[.int .i64 (vx 0 (#v[24, 4, a0.Op] : Vector Int 3) 0), .int .i64 (vx 0 (#v[24, 4, a0.Op] : Vector Int 3) 1), .int .i64 (vx 0 (#v[24, 4, a0.Op] : Vector Int 3) 2)]), (83, .pointer (some ((ad2 : Addr).add 4)))]) (by kernel_rfl) ?_ (by kernel_rfl)
       clear hs; intro a hs
       refine z_run hs (op := (Op.load 3 (Operand.tmp 83))) (ty := 3) (dst := some 84) (g := none) (by kernel_rfl) (by kernel_rfl) (by kernel_rfl) (fun wx hbx => (x_ld (E := eSapi_Instr) (off := 4) (p := (ad2 : Addr).add 4) (v := .int .i64 a0.C) ((Rd.of_own (hw.up 4)).below hbx) (one_ok a0).1 (one_ok a0).2 (by kernel_rfl) (one_off _ _ _) (by kernel_rfl) (by kernel_rfl))) [81, 82, 84] (L' := [(81, .agg #[.int .i64 (vx 0 t93 0), .int .i64 (vx 0 t93 1), .int .i64 (vx 0 t93 2)]), (82, .agg #[.int .i64 (vx 0 (#v[24, 4, a0.Op] : Vector Int 3) 0), .int .i64 (vx 0 (#v[24, 4, a0.Op] : Vector Int 3) 1), .int .i64 (vx 0 (#v[24, 4, a0.Op] : Vector Int 3) 2)]), (84, .int .i64 a0.C)]) (by kernel_rfl) ?_
       clear hs; intro a hs
       refine z_pvs [6] [] [81, 82, 85] hs (L' := [(81, .agg #[.int .i64 (vx 0 t93 0), .int .i64 (vx 0 t93 1), .int .i64 (vx 0 t93 2)]), (82, .agg #[.int .i64 (vx 0 (#v[24, 4, a0.Op] : Vector Int 3) 0), .int .i64 (vx 0 (#v[24, 4, a0.Op] : Vector Int 3) 1), .int .i64 (vx 0 (#v[24, 4, a0.Op] : Vector Int 3) 2)]), (85, .agg #[.int .i64 0, .int .i64 4, .int .i64 a0.C])]) (by kernel_rfl) ?_ (by kernel_rfl)
       clear hs; intro a hs
       refine z_end ?_
       intro wq hbq
       replace hw := hw.behind hbq
       obtain ⟨Aa95, cc96, wd97, hx98, hw⟩ := n_lit (P := Try.prog) (t := 85) (ty := 85) (T := 76) (len := 3) (parts := #[(0, (Operand.tmp 81)), (1, (Operand.tmp 82)), (2, (Operand.tmp 85))]) (z := .agg #[.int .i64 0, .int .i64 0, .int .i64 0]) (bytes := 24) (cells := #[.int .i64 (vx 0 t93 0), .int .i64 (vx 0 t93 1), .int .i64 (vx 0 t93 2), .int .i64 (vx 0 (#v[24, 4, a0.Op] : Vector Int 3) 0), .int .i64 (vx 0 (#v[24, 4, a0.Op] : Vector Int 3) 1), .int .i64 (vx 0 (#v[24, 4, a0.Op] : Vector Int 3) 2), .int .i64 0, .int .i64 4, .int .i64 a0.C]) hs hw eA76 ([t93, (#v[24, 4, a0.Op] : Vector Int 3), (#v[0, 4, a0.C] : Vector Int 3)] : List (Vector Int 3)) (by kernel_rfl) (by kernel_rfl) (by kernel_rfl) (by kernel_rfl) (by kernel_rfl) (by kernel_rfl) (by kernel_rfl)
       refine p_run hs (op := (Op.buildSlice 85 3 #[(0, (Operand.tmp 81)), (1, (Operand.tmp 82)), (2, (Operand.tmp 85))])) (ty := 85) (dst := some 86) (g := none) (by kernel_rfl) (by kernel_rfl) (by kernel_rfl) hx98 [86] (L' := [(86, .slice Aa95 ([t93, (#v[24, 4, a0.Op] : Vector Int 3), (#v[0, 4, a0.C] : Vector Int 3)] : List (Vector Int 3)).length cc96)]) (by kernel_rfl) ?_
       clear hs; intro a hs
       obtain ⟨t101, hx102, H⟩ := bind_some H
       refine p_call hs (op := (Op.call { callee := (Callee.value (Operand.func 56)), args := #[(Operand.tmp 86)], argTypes := #[85] })) (ty := 22) (dst := some 87) (g := none) (by kernel_rfl) (by kernel_rfl) (by kernel_rfl) (f := 56) (args := #[.slice Aa95 ([t93, (#v[24, 4, a0.Op] : Vector Int 3), (#v[0, 4, a0.C] : Vector Int 3)] : List (Vector Int 3)).length cc96]) (by kernel_rfl) (isa_lay.calls Aa95 cc96 ([t93, (#v[24, 4, a0.Op] : Vector Int 3), (#v[0, 4, a0.C] : Vector Int 3)] : List (Vector Int 3)) t101 _ (Rd.of_own (hw.up 0)) hx102) ?_
       rintro e wd103 ⟨rfl, hw104⟩
       refine ⟨_, rfl, ?_⟩
       replace hw := hw.call hw104
       intro a hs1
       replace hs : Slots a 97 [(87, .int .u32 t101)] := hs1.keep [87] (by kernel_rfl)
       clear hs1
       refine p_pvs [9] [] [2] hs (L' := [(2, .int .u32 t101)]) (by kernel_rfl) ?_
       clear hs; intro a hs
       refine p_last ?_
       refine e_end ?_
       refine hK91 _ _ ?_
       refine wp_ret ?_
       refine ib_ret ?_
       refine th_ret ?_
       obtain rfl := Option.some.inj H
       refine ret1 (t := 2) (v := .int .u32 t101) hs (by kernel_rfl) (by kernel_rfl) ?_
       exact ⟨rfl, hw.only 0⟩
      ·replace H := ite_f H (beq_eq_false_iff_ne.1 hc)
       have hb105 := hc
       rw [hb105] at hs
       refine wp_skip ?_
       refine ib_norm ?_
       replace hw := hw.up 4
       replace hw := hw.up 4
       replace hw := hw.up 4
       replace hw := hw.up 4
       replace hw := hw.up 4
       replace hw := hw.only 5
       exact hJ2 _ _ (hs.keep [1, 6] (by kernel_rfl)) hw H
  refine go_seq_k fun K35 hK35 => ?_
  refine go_region ?_
  refine go_pvs 0 2 [1, 3, 4, 5, 6, 20, 34] hs (L' := [(1, .pointer (some ad2)), (3, .pointer (some ad7)), (4, .pointer (some ad8)), (5, .pointer (some ad9)), (6, .pointer (some ad10)), (20, .int .i64 a0.Kind), (34, .bool (a0.Kind == 3))]) (by kernel_rfl) ?_ rfl
  clear hs; intro a hs
  refine go_end (by kernel_rfl) ?_
  refine hK35 _ _ ?_
  refine go_cond hs (a0.Kind == 3) (by kernel_rfl) (fun hc => ?_) (fun hc => ?_)
  ·replace H := ite_t H (beq_iff_eq.1 hc)
   have hb36 := hc
   rw [hb36] at hs
   refine wp_skip ?_
   replace hw := hw.up 4
   replace hw := hw.up 4
   replace hw := hw.up 4
   replace hw := hw.up 4
   replace hw := hw.up 4
   replace hw := hw.only 5
   exact hJ1 true _ _ (hs.keep [1, 3, 4, 5, 6, 20, 34] (by kernel_rfl)) hw H
  ·replace H := ite_f H (beq_eq_false_iff_ne.1 hc)
   have hb37 := hc
   rw [hb37] at hs
   refine go_region ?_
   refine go_pvs 0 2 [1, 3, 4, 5, 6, 20, 34] hs (L' := [(1, .pointer (some ad2)), (3, .pointer (some ad7)), (4, .pointer (some ad8)), (5, .pointer (some ad9)), (6, .pointer (some ad10)), (20, .int .i64 a0.Kind), (34, .bool (a0.Kind == 4))]) (by kernel_rfl) ?_ rfl
   clear hs; intro a hs
   refine go_end (by kernel_rfl) ?_
   replace hw := hw.up 4
   replace hw := hw.up 4
   replace hw := hw.up 4
   replace hw := hw.up 4
   replace hw := hw.up 4
   replace hw := hw.only 5
   exact hJ1 (a0.Kind == 4) _ _ (hs.keep [1, 3, 4, 5, 6, 20, 34] (by kernel_rfl)) hw H

/-! rivet/isa.May: function 17 -/
noncomputable def isa_May.j4 (v42 : Bool) : Option Bool := some v42
noncomputable def isa_May.j5 (v55 : Bool) : Option Bool := some v55
noncomputable def isa_May.j6 : Option Bool := some true
noncomputable def isa_May.j3 (a0 : Sapi_Instr) (v32 : Bool) : Option Bool := (if v32 = true then (if a0.Op = 0 then (if a0.B = 0 then (if a0.Kind = 2 then (if a0.U = true then isa_May.j4 (decide (a0.Imm ≥ 0)) else isa_May.j4 true) else (if a0.U = true then isa_May.j4 false else isa_May.j4 true)) else isa_May.j4 false) else (if a0.Op > 11 then some false else (if a0.U = true then ((isa_between a0.Op 8 10).bind fun t51 => (isa_May.j5 t51)) else isa_May.j5 true))) else isa_May.j6)
noncomputable def isa_May.j2 (a0 : Sapi_Instr) : Option Bool := (if a0.Kind = 1 then isa_May.j3 a0 true else isa_May.j3 a0 (a0.Kind == 2))
noncomputable def isa_May.j1 (a0 : Sapi_Instr) (v22 : Bool) : Option Bool := (if v22 = true then some false else isa_May.j2 a0)
noncomputable def isa_May (a0 : Sapi_Instr) : Option Bool := ((isa_between a0.Kind 1 7).bind fun t9 => ((if t9 = true then ((isa_between a0.Op 0 15).bind fun t13 => ((if t13 = true then ((isa_word a0).bind fun t17 => (((isa_read t17).bind fun t20 => (isa_May.j1 a0 (!((a0.Kind == t20.Kind) && ((a0.Op == t20.Op) && ((a0.A == t20.A) && ((a0.B == t20.B) && ((a0.C == t20.C) && ((a0.Imm == t20.Imm) && ((a0.U == t20.U) && true)))))))))))) else isa_May.j1 a0 true))) else isa_May.j1 a0 true)))
set_option maxRecDepth 100000 in
set_option maxHeartbeats 4000000 in
theorem isa_May.calls (a0 : Sapi_Instr) (r : Bool) (w0 : World) (H : isa_May a0 = some r) :
    Calls Try.prog 17 #[.agg (eSapi_Instr.enc a0).toArray] w0 fun e w' => e = .returned (.bool r) ∧ St [] w0 w' [] := by
 have hw : St [] w0 w0 [] := St.nil w0
 unfold isa_May at H
 refine go_fn Try.func17 rfl 64 Try.ntmps17 [(0, .agg (eSapi_Instr.enc a0).toArray)] (by kernel_rfl) rfl ?_
 intro a hs
 refine go_seq_k fun K1 hK1 => ?_
 refine go_region ?_
 obtain ⟨ad2, wd3, hx4, hw⟩ := x_box1 (P := Try.prog) (elem := 27) (v := (Operand.tmp 0)) (ty := 0) hs hw eSapi_Instr a0 (by kernel_rfl)
 refine go_run hs (op := (Op.box 27 (Operand.tmp 0))) (ty := 0) (dst := some 1) (g := none) (by kernel_rfl) (by kernel_rfl) (by kernel_rfl) hx4 [1] (L' := [(1, .pointer (some ad2))]) (by kernel_rfl) ?_
 clear hs; intro a hs
 refine go_pvs 1 2 [1] hs (L' := [(1, .pointer (some ad2))]) (by kernel_rfl) ?_ rfl
 clear hs; intro a hs
 refine go_end (by kernel_rfl) ?_
 refine hK1 _ _ ?_
 refine go_seq_k fun K6 hK6 => ?_
 have hJ2 : ∀ (a : Act) (w : World), Slots a 64 [(1, .pointer (some ad2))] → St [] w0 w [own 27 eSapi_Instr (some ad2) 1 [a0]] → isa_May.j2 a0 = some r → K6 a w := by
  intro a w hs hw H
  unfold isa_May.j2 at H
  refine hK6 _ _ ?_
  refine go_seq_k fun K26 hK26 => ?_
  have hJ6 : ∀ (a : Act) (w : World), Slots a 64 [] → St [] w0 w [own 27 eSapi_Instr (some ad2) 1 [a0]] → isa_May.j6 = some r → K26 a w := by
   intro a w hs hw H
   unfold isa_May.j6 at H
   refine hK26 _ _ ?_
   refine go_seq_k fun K57 hK57 => ?_
   refine go_region ?_
   refine go_pvs 0 1 [2] hs (L' := [(2, .bool true)]) (by kernel_rfl) ?_ rfl
   clear hs; intro a hs
   refine go_end (by kernel_rfl) ?_
   refine hK57 _ _ ?_
   refine wp_ret ?_
   obtain rfl := Option.some.inj H
   refine ret1 (t := 2) (v := .bool true) hs (by kernel_rfl) (by kernel_rfl) ?_
   exact ⟨rfl, hw.only 0⟩
  refine go_seq_k fun K27 hK27 => ?_
  refine go_region ?_
  refine go_pvs 0 1 [1, 20] hs (L' := [(1, .pointer (some ad2)), (20, .pointer (some ((ad2 : Addr).add 0)))]) (by kernel_rfl) ?_ rfl
  clear hs; intro a hs
  refine go_run hs (op := (Op.load 3 (Operand.tmp 20))) (ty := 3) (dst := some 21) (g := none) (by kernel_rfl) (by kernel_rfl) (by kernel_rfl) (x_ld (E := eSapi_Instr) (off := 0) (p := (ad2 : Addr).add 0) (v := .int .i64 a0.Kind) (Rd.of_own (hw.up 0)) (one_ok a0).1 (one_ok a0).2 (by kernel_rfl) (one_off _ _ _) (by kernel_rfl) (by kernel_rfl)) [1, 21] (L' := [(1, .pointer (some ad2)), (21, .int .i64 a0.Kind)]) (by kernel_rfl) ?_
  clear hs; intro a hs
  refine go_end (by kernel_rfl) ?_
  refine hK27 _ _ ?_
  refine wp_block ?_
  refine go_seq_k fun K28 hK28 => ?_
  have hJ3 : ∀ (v32 : Bool) (a : Act) (w : World), Slots a 64 [(1, .pointer (some ad2)), (22, .bool v32)] → St [] w0 w [own 27 eSapi_Instr (some ad2) 1 [a0]] → isa_May.j3 a0 v32 = some r → K28 a w := by
   intro v32 a w hs hw H
   unfold isa_May.j3 at H
   refine hK28 _ _ ?_
   refine go_cond hs v32 (by kernel_rfl) (fun hc => ?_) (fun hc => ?_)
   ·replace H := ite_t H hc
    have hb33 := hc
    rw [hb33] at hs
    refine go_seq_k fun K34 hK34 => ?_
    refine wp_block ?_
    refine go_seq_k fun K35 hK35 => ?_
    refine go_region ?_
    refine go_pvs 0 1 [1, 26] hs (L' := [(1, .pointer (some ad2)), (26, .pointer (some ((ad2 : Addr).add 1)))]) (by kernel_rfl) ?_ rfl
    clear hs; intro a hs
    refine go_run hs (op := (Op.load 3 (Operand.tmp 26))) (ty := 3) (dst := some 27) (g := none) (by kernel_rfl) (by kernel_rfl) (by kernel_rfl) (x_ld (E := eSapi_Instr) (off := 1) (p := (ad2 : Addr).add 1) (v := .int .i64 a0.Op) (Rd.of_own (hw.up 0)) (one_ok a0).1 (one_ok a0).2 (by kernel_rfl) (one_off _ _ _) (by kernel_rfl) (by kernel_rfl)) [1, 27] (L' := [(1, .pointer (some ad2)), (27, .int .i64 a0.Op)]) (by kernel_rfl) ?_
    clear hs; intro a hs
    refine go_pvs 2 4 [1, 25] hs (L' := [(1, .pointer (some ad2)), (25, .bool (a0.Op == 0))]) (by kernel_rfl) ?_ rfl
    clear hs; intro a hs
    refine go_end (by kernel_rfl) ?_
    refine hK35 _ _ ?_
    refine go_cond hs (a0.Op == 0) (by kernel_rfl) (fun hc => ?_) (fun hc => ?_)
    ·replace H := ite_t H (beq_iff_eq.1 hc)
     have hb36 := hc
     rw [hb36] at hs
     refine go_seq_k fun K37 hK37 => ?_
     have hJ4 : ∀ (v42 : Bool) (a : Act) (w : World), Slots a 64 [(2, .bool v42)] → St [] w0 w [own 27 eSapi_Instr (some ad2) 1 [a0]] → isa_May.j4 v42 = some r → K37 a w := by
      intro v42 a w hs hw H
      unfold isa_May.j4 at H
      refine hK37 _ _ ?_
      refine wp_ret ?_
      refine ib_ret ?_
      refine th_ret ?_
      refine ib_ret ?_
      refine th_ret ?_
      obtain rfl := Option.some.inj H
      refine ret1 (t := 2) (v := .bool v42) hs (by kernel_rfl) (by kernel_rfl) ?_
      exact ⟨rfl, hw.only 0⟩
     refine go_region ?_
     refine go_pvs 0 1 [1, 29] hs (L' := [(1, .pointer (some ad2)), (29, .pointer (some ((ad2 : Addr).add 3)))]) (by kernel_rfl) ?_ rfl
     clear hs; intro a hs
     refine go_run hs (op := (Op.load 3 (Operand.tmp 29))) (ty := 3) (dst := some 30) (g := none) (by kernel_rfl) (by kernel_rfl) (by kernel_rfl) (x_ld (E := eSapi_Instr) (off := 3) (p := (ad2 : Addr).add 3) (v := .int .i64 a0.B) (Rd.of_own (hw.up 0)) (one_ok a0).1 (one_ok a0).2 (by kernel_rfl) (one_off _ _ _) (by kernel_rfl) (by kernel_rfl)) [1, 30] (L' := [(1, .pointer (some ad2)), (30, .int .i64 a0.B)]) (by kernel_rfl) ?_
     clear hs; intro a hs
     refine go_pvs 2 4 [1, 32] hs (L' := [(1, .pointer (some ad2)), (32, .bool (a0.B == 0))]) (by kernel_rfl) ?_ rfl
     clear hs; intro a hs
     cases hb38 : (a0.B == 0)
     ·replace H := ite_f H (beq_eq_false_iff_ne.1 hb38)
      rw [hb38] at hs
      refine go_pvs 4 24 [2] hs (L' := [(2, .bool false)]) (by kernel_rfl) ?_ rfl
      clear hs; intro a hs
      refine go_end (by kernel_rfl) ?_
      replace hw := hw.only 1
      exact hJ4 false _ _ (hs.keep [2] (by kernel_rfl)) hw H
     ·replace H := ite_t H (beq_iff_eq.1 hb38)
      rw [hb38] at hs
      refine go_pvs 4 5 [1, 32, 33] hs (L' := [(1, .pointer (some ad2)), (32, .bool true), (33, .pointer (some ((ad2 : Addr).add 0)))]) (by kernel_rfl) ?_ rfl
      clear hs; intro a hs
      refine go_run hs (op := (Op.load 3 (Operand.tmp 33))) (ty := 3) (dst := some 34) (g := some (3, true)) (by kernel_rfl) (by kernel_rfl) (by kernel_rfl) (x_ld (E := eSapi_Instr) (off := 0) (p := (ad2 : Addr).add 0) (v := .int .i64 a0.Kind) (Rd.of_own (hw.up 0)) (one_ok a0).1 (one_ok a0).2 (by kernel_rfl) (one_off _ _ _) (by kernel_rfl) (by kernel_rfl)) [1, 32, 34] (L' := [(1, .pointer (some ad2)), (32, .bool true), (34, .int .i64 a0.Kind)]) (by kernel_rfl) ?_
      clear hs; intro a hs
      refine go_pvs 6 8 [1, 32, 36] hs (L' := [(1, .pointer (some ad2)), (32, .bool true), (36, .bool (a0.Kind == 2))]) (by kernel_rfl) ?_ rfl
      clear hs; intro a hs
      cases hb39 : (a0.Kind == 2)
      ·replace H := ite_f H (beq_eq_false_iff_ne.1 hb39)
       rw [hb39] at hs
       refine go_pvs 8 9 [1, 32, 36, 37] hs (L' := [(1, .pointer (some ad2)), (32, .bool true), (36, .bool false), (37, .pointer (some ((ad2 : Addr).add 6)))]) (by kernel_rfl) ?_ rfl
       clear hs; intro a hs
       refine go_run hs (op := (Op.load 4 (Operand.tmp 37))) (ty := 4) (dst := some 38) (g := some (7, false)) (by kernel_rfl) (by kernel_rfl) (by kernel_rfl) (x_ld (E := eSapi_Instr) (off := 6) (p := (ad2 : Addr).add 6) (v := .bool a0.U) (Rd.of_own (hw.up 0)) (one_ok a0).1 (one_ok a0).2 (by kernel_rfl) (one_off _ _ _) (by kernel_rfl) (by kernel_rfl)) [1, 32, 36, 38] (L' := [(1, .pointer (some ad2)), (32, .bool true), (36, .bool false), (38, .bool a0.U)]) (by kernel_rfl) ?_
       clear hs; intro a hs
       refine go_pvs 10 14 [1, 42] hs (L' := [(1, .pointer (some ad2)), (42, .bool (!a0.U))]) (by kernel_rfl) ?_ rfl
       clear hs; intro a hs
       cases hb40 : (!a0.U)
       ·replace H := ite_t H (nf hb40)
        rw [hb40] at hs
        refine go_pvs 14 24 [2] hs (L' := [(2, .bool false)]) (by kernel_rfl) ?_ rfl
        clear hs; intro a hs
        refine go_end (by kernel_rfl) ?_
        replace hw := hw.only 1
        exact hJ4 false _ _ (hs.keep [2] (by kernel_rfl)) hw H
       ·replace H := ite_f H (ff (nt hb40))
        rw [hb40] at hs
        refine go_pvs 14 15 [1, 42, 43] hs (L' := [(1, .pointer (some ad2)), (42, .bool true), (43, .pointer (some ((ad2 : Addr).add 6)))]) (by kernel_rfl) ?_ rfl
        clear hs; intro a hs
        refine go_run hs (op := (Op.load 4 (Operand.tmp 43))) (ty := 4) (dst := some 44) (g := some (13, true)) (by kernel_rfl) (by kernel_rfl) (by kernel_rfl) (x_ld (E := eSapi_Instr) (off := 6) (p := (ad2 : Addr).add 6) (v := .bool a0.U) (Rd.of_own (hw.up 0)) (one_ok a0).1 (one_ok a0).2 (by kernel_rfl) (one_off _ _ _) (by kernel_rfl) (by kernel_rfl)) [1, 42, 44] (L' := [(1, .pointer (some ad2)), (42, .bool true), (44, .bool a0.U)]) (by kernel_rfl) ?_
        clear hs; intro a hs
        refine go_pvs 16 18 [1, 42, 46] hs (L' := [(1, .pointer (some ad2)), (42, .bool true), (46, .bool (!a0.U))]) (by kernel_rfl) ?_ rfl
        clear hs; intro a hs
        rw [hb40] at hs
        refine go_pvs 18 24 [2] hs (L' := [(2, .bool true)]) (by kernel_rfl) ?_ rfl
        clear hs; intro a hs
        refine go_end (by kernel_rfl) ?_
        replace hw := hw.only 1
        exact hJ4 true _ _ (hs.keep [2] (by kernel_rfl)) hw H
      ·replace H := ite_t H (beq_iff_eq.1 hb39)
       rw [hb39] at hs
       refine go_pvs 8 15 [1, 42, 43] hs (L' := [(1, .pointer (some ad2)), (42, .bool true), (43, .pointer (some ((ad2 : Addr).add 6)))]) (by kernel_rfl) ?_ rfl
       clear hs; intro a hs
       refine go_run hs (op := (Op.load 4 (Operand.tmp 43))) (ty := 4) (dst := some 44) (g := some (13, true)) (by kernel_rfl) (by kernel_rfl) (by kernel_rfl) (x_ld (E := eSapi_Instr) (off := 6) (p := (ad2 : Addr).add 6) (v := .bool a0.U) (Rd.of_own (hw.up 0)) (one_ok a0).1 (one_ok a0).2 (by kernel_rfl) (one_off _ _ _) (by kernel_rfl) (by kernel_rfl)) [1, 42, 44] (L' := [(1, .pointer (some ad2)), (42, .bool true), (44, .bool a0.U)]) (by kernel_rfl) ?_
       clear hs; intro a hs
       refine go_pvs 16 18 [1, 42, 46] hs (L' := [(1, .pointer (some ad2)), (42, .bool true), (46, .bool (!a0.U))]) (by kernel_rfl) ?_ rfl
       clear hs; intro a hs
       cases hb41 : (!a0.U)
       ·replace H := ite_t H (nf hb41)
        rw [hb41] at hs
        refine go_pvs 18 19 [42, 46, 47] hs (L' := [(42, .bool true), (46, .bool false), (47, .pointer (some ((ad2 : Addr).add 5)))]) (by kernel_rfl) ?_ rfl
        clear hs; intro a hs
        refine go_run hs (op := (Op.load 3 (Operand.tmp 47))) (ty := 3) (dst := some 48) (g := some (17, false)) (by kernel_rfl) (by kernel_rfl) (by kernel_rfl) (x_ld (E := eSapi_Instr) (off := 5) (p := (ad2 : Addr).add 5) (v := .int .i64 a0.Imm) (Rd.of_own (hw.up 0)) (one_ok a0).1 (one_ok a0).2 (by kernel_rfl) (one_off _ _ _) (by kernel_rfl) (by kernel_rfl)) [42, 46, 48] (L' := [(42, .bool true), (46, .bool false), (48, .int .i64 a0.Imm)]) (by kernel_rfl) ?_
        clear hs; intro a hs
        refine go_pvs 20 24 [2] hs (L' := [(2, .bool (decide (a0.Imm ≥ 0)))]) (by kernel_rfl) ?_ rfl
        clear hs; intro a hs
        refine go_end (by kernel_rfl) ?_
        replace hw := hw.only 1
        exact hJ4 (decide (a0.Imm ≥ 0)) _ _ (hs.keep [2] (by kernel_rfl)) hw H
       ·replace H := ite_f H (ff (nt hb41))
        rw [hb41] at hs
        refine go_pvs 18 24 [2] hs (L' := [(2, .bool true)]) (by kernel_rfl) ?_ rfl
        clear hs; intro a hs
        refine go_end (by kernel_rfl) ?_
        replace hw := hw.only 1
        exact hJ4 true _ _ (hs.keep [2] (by kernel_rfl)) hw H
    ·replace H := ite_f H (beq_eq_false_iff_ne.1 hc)
     have hb43 := hc
     rw [hb43] at hs
     refine go_seq_k fun K44 hK44 => ?_
     refine go_region ?_
     refine go_pvs 0 1 [1, 53] hs (L' := [(1, .pointer (some ad2)), (53, .pointer (some ((ad2 : Addr).add 1)))]) (by kernel_rfl) ?_ rfl
     clear hs; intro a hs
     refine go_run hs (op := (Op.load 3 (Operand.tmp 53))) (ty := 3) (dst := some 54) (g := none) (by kernel_rfl) (by kernel_rfl) (by kernel_rfl) (x_ld (E := eSapi_Instr) (off := 1) (p := (ad2 : Addr).add 1) (v := .int .i64 a0.Op) (Rd.of_own (hw.up 0)) (one_ok a0).1 (one_ok a0).2 (by kernel_rfl) (one_off _ _ _) (by kernel_rfl) (by kernel_rfl)) [1, 54] (L' := [(1, .pointer (some ad2)), (54, .int .i64 a0.Op)]) (by kernel_rfl) ?_
     clear hs; intro a hs
     refine go_pvs 2 4 [1, 52] hs (L' := [(1, .pointer (some ad2)), (52, .bool (decide (a0.Op > 11)))]) (by kernel_rfl) ?_ rfl
     clear hs; intro a hs
     refine go_end (by kernel_rfl) ?_
     refine hK44 _ _ ?_
     refine go_cond hs (decide (a0.Op > 11)) (by kernel_rfl) (fun hc => ?_) (fun hc => ?_)
     ·replace H := ite_t H (of_decide_eq_true hc)
      have hb45 := hc
      rw [hb45] at hs
      refine go_seq_k fun K46 hK46 => ?_
      refine go_region ?_
      refine go_pvs 0 1 [2] hs (L' := [(2, .bool false)]) (by kernel_rfl) ?_ rfl
      clear hs; intro a hs
      refine go_end (by kernel_rfl) ?_
      refine hK46 _ _ ?_
      refine wp_ret ?_
      refine ib_ret ?_
      refine th_ret ?_
      refine ib_ret ?_
      refine th_ret ?_
      obtain rfl := Option.some.inj H
      refine ret1 (t := 2) (v := .bool false) hs (by kernel_rfl) (by kernel_rfl) ?_
      exact ⟨rfl, hw.only 0⟩
     ·replace H := ite_f H (of_decide_eq_false hc)
      have hb47 := hc
      rw [hb47] at hs
      refine wp_skip ?_
      refine ib_norm ?_
      refine hK34 _ _ ?_
      refine go_seq_k fun K48 hK48 => ?_
      have hJ5 : ∀ (v55 : Bool) (a : Act) (w : World), Slots a 64 [(2, .bool v55)] → St [] w0 w [own 27 eSapi_Instr (some ad2) 1 [a0]] → isa_May.j5 v55 = some r → K48 a w := by
       intro v55 a w hs hw H
       unfold isa_May.j5 at H
       refine hK48 _ _ ?_
       refine wp_ret ?_
       refine ib_ret ?_
       refine th_ret ?_
       obtain rfl := Option.some.inj H
       refine ret1 (t := 2) (v := .bool v55) hs (by kernel_rfl) (by kernel_rfl) ?_
       exact ⟨rfl, hw.only 0⟩
      refine go_region ?_
      refine go_pvs 0 1 [1, 56] hs (L' := [(1, .pointer (some ad2)), (56, .pointer (some ((ad2 : Addr).add 6)))]) (by kernel_rfl) ?_ rfl
      clear hs; intro a hs
      refine go_run hs (op := (Op.load 4 (Operand.tmp 56))) (ty := 4) (dst := some 57) (g := none) (by kernel_rfl) (by kernel_rfl) (by kernel_rfl) (x_ld (E := eSapi_Instr) (off := 6) (p := (ad2 : Addr).add 6) (v := .bool a0.U) (Rd.of_own (hw.up 0)) (one_ok a0).1 (one_ok a0).2 (by kernel_rfl) (one_off _ _ _) (by kernel_rfl) (by kernel_rfl)) [1, 57] (L' := [(1, .pointer (some ad2)), (57, .bool a0.U)]) (by kernel_rfl) ?_
      clear hs; intro a hs
      refine go_pvs 2 4 [1, 59] hs (L' := [(1, .pointer (some ad2)), (59, .bool (!a0.U))]) (by kernel_rfl) ?_ rfl
      clear hs; intro a hs
      cases hb49 : (!a0.U)
      ·replace H := ite_t H (nf hb49)
       rw [hb49] at hs
       refine go_pvs 4 5 [59, 60] hs (L' := [(59, .bool false), (60, .pointer (some ((ad2 : Addr).add 1)))]) (by kernel_rfl) ?_ rfl
       clear hs; intro a hs
       refine go_run hs (op := (Op.load 3 (Operand.tmp 60))) (ty := 3) (dst := some 61) (g := some (3, false)) (by kernel_rfl) (by kernel_rfl) (by kernel_rfl) (x_ld (E := eSapi_Instr) (off := 1) (p := (ad2 : Addr).add 1) (v := .int .i64 a0.Op) (Rd.of_own (hw.up 0)) (one_ok a0).1 (one_ok a0).2 (by kernel_rfl) (one_off _ _ _) (by kernel_rfl) (by kernel_rfl)) [59, 61] (L' := [(59, .bool false), (61, .int .i64 a0.Op)]) (by kernel_rfl) ?_
       clear hs; intro a hs
       obtain ⟨t51, hx52, H⟩ := bind_some H
       refine go_call hs (op := (Op.call { callee := (Callee.value (Operand.func 28)), args := #[(Operand.tmp 61), (Operand.const (Value.int IntKind.i64 8)), (Operand.const (Value.int IntKind.i64 10))], argTypes := #[3, 3, 3] })) (ty := 4) (dst := some 62) (g := some (3, false)) (by kernel_rfl) (by kernel_rfl) (by kernel_rfl) (f := 28) (args := #[.int .i64 a0.Op, .int .i64 8, .int .i64 10]) (by kernel_rfl) (isa_between.calls a0.Op 8 10 t51 _ hx52) ?_
       rintro e wd53 ⟨rfl, hw54⟩
       refine ⟨_, rfl, ?_⟩
       replace hw := hw.call hw54
       intro a hs1
       replace hs : Slots a 64 [(59, .bool false), (62, .bool t51)] := hs1.keep [59, 62] (by kernel_rfl)
       clear hs1
       refine go_pvs 7 9 [2] hs (L' := [(2, .bool t51)]) (by kernel_rfl) ?_ rfl
       clear hs; intro a hs
       refine go_end (by kernel_rfl) ?_
       replace hw := hw.only 1
       exact hJ5 t51 _ _ (hs.keep [2] (by kernel_rfl)) hw H
      ·replace H := ite_f H (ff (nt hb49))
       rw [hb49] at hs
       refine go_pvs 4 9 [2] hs (L' := [(2, .bool true)]) (by kernel_rfl) ?_ rfl
       clear hs; intro a hs
       refine go_end (by kernel_rfl) ?_
       replace hw := hw.only 1
       exact hJ5 true _ _ (hs.keep [2] (by kernel_rfl)) hw H
   ·replace H := ite_f H (ff hc)
    have hb56 := hc
    rw [hb56] at hs
    refine wp_skip ?_
    refine ib_norm ?_
    replace hw := hw.only 1
    exact hJ6 _ _ (hs.keep [] (by kernel_rfl)) hw H
  refine go_seq_k fun K29 hK29 => ?_
  refine go_region ?_
  refine go_pvs 0 2 [1, 21, 22] hs (L' := [(1, .pointer (some ad2)), (21, .int .i64 a0.Kind), (22, .bool (a0.Kind == 1))]) (by kernel_rfl) ?_ rfl
  clear hs; intro a hs
  refine go_end (by kernel_rfl) ?_
  refine hK29 _ _ ?_
  refine go_cond hs (a0.Kind == 1) (by kernel_rfl) (fun hc => ?_) (fun hc => ?_)
  ·replace H := ite_t H (beq_iff_eq.1 hc)
   have hb30 := hc
   rw [hb30] at hs
   refine wp_skip ?_
   replace hw := hw.only 1
   exact hJ3 true _ _ (hs.keep [1, 22] (by kernel_rfl)) hw H
  ·replace H := ite_f H (beq_eq_false_iff_ne.1 hc)
   have hb31 := hc
   rw [hb31] at hs
   refine go_region ?_
   refine go_pvs 0 2 [1, 22] hs (L' := [(1, .pointer (some ad2)), (22, .bool (a0.Kind == 2))]) (by kernel_rfl) ?_ rfl
   clear hs; intro a hs
   refine go_end (by kernel_rfl) ?_
   replace hw := hw.only 1
   exact hJ3 (a0.Kind == 2) _ _ (hs.keep [1, 22] (by kernel_rfl)) hw H
 refine go_seq_k fun K7 hK7 => ?_
 have hJ1 : ∀ (v22 : Bool) (a : Act) (w : World), Slots a 64 [(1, .pointer (some ad2)), (19, .bool v22)] → St [] w0 w [own 27 eSapi_Instr (some ad2) 1 [a0]] → isa_May.j1 a0 v22 = some r → K7 a w := by
  intro v22 a w hs hw H
  unfold isa_May.j1 at H
  refine hK7 _ _ ?_
  refine go_cond hs v22 (by kernel_rfl) (fun hc => ?_) (fun hc => ?_)
  ·replace H := ite_t H hc
   have hb23 := hc
   rw [hb23] at hs
   refine go_seq_k fun K24 hK24 => ?_
   refine go_region ?_
   refine go_pvs 0 1 [2] hs (L' := [(2, .bool false)]) (by kernel_rfl) ?_ rfl
   clear hs; intro a hs
   refine go_end (by kernel_rfl) ?_
   refine hK24 _ _ ?_
   refine wp_ret ?_
   refine th_ret ?_
   obtain rfl := Option.some.inj H
   refine ret1 (t := 2) (v := .bool false) hs (by kernel_rfl) (by kernel_rfl) ?_
   exact ⟨rfl, hw.only 0⟩
  ·replace H := ite_f H (ff hc)
   have hb25 := hc
   rw [hb25] at hs
   refine wp_skip ?_
   replace hw := hw.only 1
   exact hJ2 _ _ (hs.keep [1] (by kernel_rfl)) hw H
 refine q2_region (by kernel_rfl) (by kernel_rfl) ?_
 refine q_pvs 0 1 [1, 3] hs (L' := [(1, .pointer (some ad2)), (3, .pointer (some ((ad2 : Addr).add 0)))]) (by kernel_rfl) ?_ rfl
 clear hs; intro a hs
 refine q_run hs (op := (Op.load 3 (Operand.tmp 3))) (ty := 3) (dst := some 4) (g := none) (by kernel_rfl) (by kernel_rfl) (by kernel_rfl) (fun wx hbx => (x_ld (E := eSapi_Instr) (off := 0) (p := (ad2 : Addr).add 0) (v := .int .i64 a0.Kind) ((Rd.of_own (hw.up 0)).below hbx) (one_ok a0).1 (one_ok a0).2 (by kernel_rfl) (one_off _ _ _) (by kernel_rfl) (by kernel_rfl))) [1, 4] (L' := [(1, .pointer (some ad2)), (4, .int .i64 a0.Kind)]) (by kernel_rfl) ?_
 clear hs; intro a hs
 obtain ⟨t9, hx10, H⟩ := bind_some H
 refine q_call hs (op := (Op.call { callee := (Callee.value (Operand.func 28)), args := #[(Operand.tmp 4), (Operand.const (Value.int IntKind.i64 1)), (Operand.const (Value.int IntKind.i64 7))], argTypes := #[3, 3, 3] })) (ty := 4) (dst := some 5) (g := none) (by kernel_rfl) (by kernel_rfl) (by kernel_rfl) (f := 28) (args := #[.int .i64 a0.Kind, .int .i64 1, .int .i64 7]) (v := .bool t9) (by kernel_rfl) (fun wx hbx => (isa_between.calls a0.Kind 1 7 t9 _ hx10).mono ?_) [1, 5] (L' := [(1, .pointer (some ad2)), (5, .bool t9)]) (by kernel_rfl) ?_
 · rintro e wy ⟨rfl, hwy⟩
   exact ⟨rfl, below_st hbx hwy⟩
 clear hs; intro a hs
 refine q_pvs 3 5 [1, 7] hs (L' := [(1, .pointer (some ad2)), (7, .bool (!t9))]) (by kernel_rfl) ?_ rfl
 clear hs; intro a hs
 cases hb11 : (!t9)
 ·replace H := ite_t H (nf hb11)
  rw [hb11] at hs
  refine q_pvs 5 6 [1, 7, 8] hs (L' := [(1, .pointer (some ad2)), (7, .bool false), (8, .pointer (some ((ad2 : Addr).add 1)))]) (by kernel_rfl) ?_ rfl
  clear hs; intro a hs
  refine q_run hs (op := (Op.load 3 (Operand.tmp 8))) (ty := 3) (dst := some 9) (g := some (4, false)) (by kernel_rfl) (by kernel_rfl) (by kernel_rfl) (fun wx hbx => (x_ld (E := eSapi_Instr) (off := 1) (p := (ad2 : Addr).add 1) (v := .int .i64 a0.Op) ((Rd.of_own (hw.up 0)).below hbx) (one_ok a0).1 (one_ok a0).2 (by kernel_rfl) (one_off _ _ _) (by kernel_rfl) (by kernel_rfl))) [1, 7, 9] (L' := [(1, .pointer (some ad2)), (7, .bool false), (9, .int .i64 a0.Op)]) (by kernel_rfl) ?_
  clear hs; intro a hs
  obtain ⟨t13, hx14, H⟩ := bind_some H
  refine q_call hs (op := (Op.call { callee := (Callee.value (Operand.func 28)), args := #[(Operand.tmp 9), (Operand.const (Value.int IntKind.i64 0)), (Operand.const (Value.int IntKind.i64 15))], argTypes := #[3, 3, 3] })) (ty := 4) (dst := some 10) (g := some (4, false)) (by kernel_rfl) (by kernel_rfl) (by kernel_rfl) (f := 28) (args := #[.int .i64 a0.Op, .int .i64 0, .int .i64 15]) (v := .bool t13) (by kernel_rfl) (fun wx hbx => (isa_between.calls a0.Op 0 15 t13 _ hx14).mono ?_) [1, 7, 10] (L' := [(1, .pointer (some ad2)), (7, .bool false), (10, .bool t13)]) (by kernel_rfl) ?_
  · rintro e wy ⟨rfl, hwy⟩
    exact ⟨rfl, below_st hbx hwy⟩
  clear hs; intro a hs
  refine q_pvs 8 11 [1, 13] hs (L' := [(1, .pointer (some ad2)), (13, .bool (!t13))]) (by kernel_rfl) ?_ rfl
  clear hs; intro a hs
  cases hb15 : (!t13)
  ·replace H := ite_t H (nf hb15)
   rw [hb15] at hs
   refine q_run hs (op := (Op.load 27 (Operand.tmp 1))) (ty := 27) (dst := some 14) (g := some (10, false)) (by kernel_rfl) (by kernel_rfl) (by kernel_rfl) (fun wx hbx => (x_lds (E := eSapi_Instr) (off := 0) (p := ad2) (cs := (eSapi_Instr.enc a0)) ((Rd.of_own (hw.up 0)).below hbx) (one_ok a0).1 (one_ok a0).2 (by kernel_rfl) (one_at _ _) (by kernel_rfl) (by kernel_rfl) (by kernel_rfl))) [1, 13, 14] (L' := [(1, .pointer (some ad2)), (13, .bool false), (14, .agg (eSapi_Instr.enc a0).toArray)]) (by kernel_rfl) ?_
   clear hs; intro a hs
   refine q_run hs (op := (Op.load 27 (Operand.tmp 1))) (ty := 27) (dst := some 15) (g := some (10, false)) (by kernel_rfl) (by kernel_rfl) (by kernel_rfl) (fun wx hbx => (x_lds (E := eSapi_Instr) (off := 0) (p := ad2) (cs := (eSapi_Instr.enc a0)) ((Rd.of_own (hw.up 0)).below hbx) (one_ok a0).1 (one_ok a0).2 (by kernel_rfl) (one_at _ _) (by kernel_rfl) (by kernel_rfl) (by kernel_rfl))) [1, 13, 14, 15] (L' := [(1, .pointer (some ad2)), (13, .bool false), (14, .agg (eSapi_Instr.enc a0).toArray), (15, .agg (eSapi_Instr.enc a0).toArray)]) (by kernel_rfl) ?_
   clear hs; intro a hs
   obtain ⟨t17, hx18, H⟩ := bind_some H
   refine q_call hs (op := (Op.call { callee := (Callee.value (Operand.func 30)), args := #[(Operand.tmp 15)], argTypes := #[27] })) (ty := 22) (dst := some 16) (g := some (10, false)) (by kernel_rfl) (by kernel_rfl) (by kernel_rfl) (f := 30) (args := #[.agg (eSapi_Instr.enc a0).toArray]) (v := .int .u32 t17) (by kernel_rfl) (fun wx hbx => (isa_word.calls a0 t17 _ hx18).mono ?_) [1, 13, 14, 16] (L' := [(1, .pointer (some ad2)), (13, .bool false), (14, .agg (eSapi_Instr.enc a0).toArray), (16, .int .u32 t17)]) (by kernel_rfl) ?_
   · rintro e wy ⟨rfl, hwy⟩
     exact ⟨rfl, below_st hbx hwy⟩
   clear hs; intro a hs
   obtain ⟨t20, hx21, H⟩ := bind_some H
   refine q_call hs (op := (Op.call { callee := (Callee.value (Operand.func 29)), args := #[(Operand.tmp 16)], argTypes := #[22] })) (ty := 27) (dst := some 17) (g := some (10, false)) (by kernel_rfl) (by kernel_rfl) (by kernel_rfl) (f := 29) (args := #[.int .u32 t17]) (v := .agg (eSapi_Instr.enc t20).toArray) (by kernel_rfl) (fun wx hbx => (isa_read.calls t17 t20 _ hx21).mono ?_) [1, 13, 14, 17] (L' := [(1, .pointer (some ad2)), (13, .bool false), (14, .agg (eSapi_Instr.enc a0).toArray), (17, .agg (eSapi_Instr.enc t20).toArray)]) (by kernel_rfl) ?_
   · rintro e wy ⟨rfl, hwy⟩
     exact ⟨rfl, below_st hbx hwy⟩
   clear hs; intro a hs
   refine q_run hs (op := (Op.binOp BinOp.neq 27 (Operand.tmp 14) (Operand.tmp 17) 27)) (ty := 4) (dst := some 18) (g := some (10, false)) (by kernel_rfl) (by kernel_rfl) (by kernel_rfl) (fun wx hbx => (x_neq (xs := (eSapi_Instr.enc a0).toArray) (ys := (eSapi_Instr.enc t20).toArray) (r := ((a0.Kind == t20.Kind) && ((a0.Op == t20.Op) && ((a0.A == t20.A) && ((a0.B == t20.B) && ((a0.C == t20.C) && ((a0.Imm == t20.Imm) && ((a0.U == t20.U) && true)))))))) (by kernel_rfl) (by kernel_rfl) (by kernel_rfl) (eq_struct Try.underlying27 (by kernel_rfl) (eq_cons (a := .int .i64 a0.Kind) (b := .int .i64 t20.Kind) (r := (a0.Kind == t20.Kind)) (s := ((a0.Op == t20.Op) && ((a0.A == t20.A) && ((a0.B == t20.B) && ((a0.C == t20.C) && ((a0.Imm == t20.Imm) && ((a0.U == t20.U) && true))))))) (by kernel_rfl) (part_pv (by kernel_rfl)) (part_pv (by kernel_rfl)) (eq_pv (by kernel_rfl)) (eq_cons (a := .int .i64 a0.Op) (b := .int .i64 t20.Op) (r := (a0.Op == t20.Op)) (s := ((a0.A == t20.A) && ((a0.B == t20.B) && ((a0.C == t20.C) && ((a0.Imm == t20.Imm) && ((a0.U == t20.U) && true)))))) (by kernel_rfl) (part_pv (by kernel_rfl)) (part_pv (by kernel_rfl)) (eq_pv (by kernel_rfl)) (eq_cons (a := .int .i64 a0.A) (b := .int .i64 t20.A) (r := (a0.A == t20.A)) (s := ((a0.B == t20.B) && ((a0.C == t20.C) && ((a0.Imm == t20.Imm) && ((a0.U == t20.U) && true))))) (by kernel_rfl) (part_pv (by kernel_rfl)) (part_pv (by kernel_rfl)) (eq_pv (by kernel_rfl)) (eq_cons (a := .int .i64 a0.B) (b := .int .i64 t20.B) (r := (a0.B == t20.B)) (s := ((a0.C == t20.C) && ((a0.Imm == t20.Imm) && ((a0.U == t20.U) && true)))) (by kernel_rfl) (part_pv (by kernel_rfl)) (part_pv (by kernel_rfl)) (eq_pv (by kernel_rfl)) (eq_cons (a := .int .i64 a0.C) (b := .int .i64 t20.C) (r := (a0.C == t20.C)) (s := ((a0.Imm == t20.Imm) && ((a0.U == t20.U) && true))) (by kernel_rfl) (part_pv (by kernel_rfl)) (part_pv (by kernel_rfl)) (eq_pv (by kernel_rfl)) (eq_cons (a := .int .i64 a0.Imm) (b := .int .i64 t20.Imm) (r := (a0.Imm == t20.Imm)) (s := ((a0.U == t20.U) && true)) (by kernel_rfl) (part_pv (by kernel_rfl)) (part_pv (by kernel_rfl)) (eq_pv (by kernel_rfl)) (eq_cons (a := .bool a0.U) (b := .bool t20.U) (r := (a0.U == t20.U)) (s := true) (by kernel_rfl) (part_pv (by kernel_rfl)) (part_pv (by kernel_rfl)) (eq_pv (by kernel_rfl)) eq_nil)))))))))) [1, 13, 18] (L' := [(1, .pointer (some ad2)), (13, .bool false), (18, .bool (!((a0.Kind == t20.Kind) && ((a0.Op == t20.Op) && ((a0.A == t20.A) && ((a0.B == t20.B) && ((a0.C == t20.C) && ((a0.Imm == t20.Imm) && ((a0.U == t20.U) && true)))))))))]) (by kernel_rfl) ?_
   clear hs; intro a hs
   refine q_pvs 16 17 [1, 19] hs (L' := [(1, .pointer (some ad2)), (19, .bool (!((a0.Kind == t20.Kind) && ((a0.Op == t20.Op) && ((a0.A == t20.A) && ((a0.B == t20.B) && ((a0.C == t20.C) && ((a0.Imm == t20.Imm) && ((a0.U == t20.U) && true)))))))))]) (by kernel_rfl) ?_ rfl
   clear hs; intro a hs
   refine q_end (by kernel_rfl) ?_
   intro wq hbq
   replace hw := hw.behind hbq
   replace hw := hw.only 1
   exact hJ1 (!((a0.Kind == t20.Kind) && ((a0.Op == t20.Op) && ((a0.A == t20.A) && ((a0.B == t20.B) && ((a0.C == t20.C) && ((a0.Imm == t20.Imm) && ((a0.U == t20.U) && true)))))))) _ _ (hs.keep [1, 19] (by kernel_rfl)) hw H
  ·replace H := ite_f H (ff (nt hb15))
   rw [hb15] at hs
   refine q_pvs 11 17 [1, 19] hs (L' := [(1, .pointer (some ad2)), (19, .bool true)]) (by kernel_rfl) ?_ rfl
   clear hs; intro a hs
   refine q_end (by kernel_rfl) ?_
   intro wq hbq
   replace hw := hw.behind hbq
   replace hw := hw.only 1
   exact hJ1 true _ _ (hs.keep [1, 19] (by kernel_rfl)) hw H
 ·replace H := ite_f H (ff (nt hb11))
  rw [hb11] at hs
  refine q_pvs 5 17 [1, 19] hs (L' := [(1, .pointer (some ad2)), (19, .bool true)]) (by kernel_rfl) ?_ rfl
  clear hs; intro a hs
  refine q_end (by kernel_rfl) ?_
  intro wq hbq
  replace hw := hw.behind hbq
  replace hw := hw.only 1
  exact hJ1 true _ _ (hs.keep [1, 19] (by kernel_rfl)) hw H

/-! rivet/alu.Show: function 13 -/
noncomputable def alu_Show (a0 : Sapi_Regs) (a1 : Int) : Option Sapi_Regs := some ({ ({ a0 with N := (a1.fdiv (2 ^ 31)) == 1 } : Sapi_Regs) with Z := a1 == 0 } : Sapi_Regs)
set_option maxRecDepth 100000 in
set_option maxHeartbeats 4000000 in
theorem alu_Show.calls (a0 : Sapi_Regs) (a1 : Int) (r : Sapi_Regs) (w0 : World) (H : alu_Show a0 a1 = some r) :
    Calls Try.prog 13 #[.agg (eSapi_Regs.enc a0).toArray, .int .u32 a1] w0 fun e w' => e = .returned (.agg (eSapi_Regs.enc r).toArray) ∧ St [] w0 w' [] := by
 have hw : St [] w0 w0 [] := St.nil w0
 unfold alu_Show at H
 refine go_fn Try.func13 rfl 13 Try.ntmps13 [(0, .agg (eSapi_Regs.enc a0).toArray), (1, .int .u32 a1)] (by kernel_rfl) rfl ?_
 intro a hs
 refine go_seq_k fun K1 hK1 => ?_
 refine go_region ?_
 obtain ⟨ad2, wd3, hx4, hw⟩ := x_box1 (P := Try.prog) (elem := 25) (v := (Operand.tmp 0)) (ty := 0) hs hw eSapi_Regs a0 (by kernel_rfl)
 refine go_run hs (op := (Op.box 25 (Operand.tmp 0))) (ty := 0) (dst := some 2) (g := none) (by kernel_rfl) (by kernel_rfl) (by kernel_rfl) hx4 [1, 2] (L' := [(1, .int .u32 a1), (2, .pointer (some ad2))]) (by kernel_rfl) ?_
 clear hs; intro a hs
 obtain ⟨ad6, wd7, hx8, hw⟩ := x_alloc1 (P := Try.prog) (elem := 25) (ty := 0) (z := .agg (eSapi_Regs.enc (⟨(Vector.replicate 16 0), 0, false, false, false, false⟩ : Sapi_Regs)).toArray) hs hw eSapi_Regs (⟨(Vector.replicate 16 0), 0, false, false, false, false⟩ : Sapi_Regs) (by kernel_rfl) (by kernel_rfl)
 refine go_run hs (op := (Op.alloc 25)) (ty := 0) (dst := some 4) (g := none) (by kernel_rfl) (by kernel_rfl) (by kernel_rfl) hx8 [1, 2, 4] (L' := [(1, .int .u32 a1), (2, .pointer (some ad2)), (4, .pointer (some ad6))]) (by kernel_rfl) ?_
 clear hs; intro a hs
 refine go_end (by kernel_rfl) ?_
 refine hK1 _ _ ?_
 refine go_seq_k fun K10 hK10 => ?_
 refine go_region ?_
 refine go_pvs 0 6 [2, 4, 7, 9, 10] hs (L' := [(2, .pointer (some ad2)), (4, .pointer (some ad6)), (7, .bool ((a1.fdiv (2 ^ 31)) == 1)), (9, .bool (a1 == 0)), (10, .pointer (some ((ad2 : Addr).add 17)))]) (by kernel_rfl) ?_ rfl
 clear hs; intro a hs
 replace hw := hw.up 1
 obtain ⟨wd11, hx12, hw⟩ := x_put (P := Try.prog) (ty := 0) (t := 4) (x := (Operand.tmp 10)) (y := (Operand.tmp 7)) (off := 17) (p := (ad2 : Addr).add 17) (v := .bool ((a1.fdiv (2 ^ 31)) == 1)) (vs := [.bool ((a1.fdiv (2 ^ 31)) == 1)]) (i := 0) (e' := (({ a0 with N := (a1.fdiv (2 ^ 31)) == 1 } : Sapi_Regs) : Sapi_Regs)) hs hw rfl (one_ok a0).1 (one_ok a0).2 (by kernel_rfl) (one_off _ _ _) (by kernel_rfl) rfl (by kernel_rfl) (Nat.le_of_ble_eq_true rfl) (by simp [Value.oneCell']) (by kernel_rfl)
 refine go_unit hs (op := (Op.store 4 (Operand.tmp 10) (Operand.tmp 7))) (ty := 0) (dst := none) (g := none) (by kernel_rfl) (by kernel_rfl) (by kernel_rfl) hx12 [2, 4, 9] (L' := [(2, .pointer (some ad2)), (4, .pointer (some ad6)), (9, .bool (a1 == 0))]) (by kernel_rfl) ?_
 clear hs; intro a hs
 replace hw : St [] w0 wd11 [own 25 eSapi_Regs (some ad2) 1 [({ a0 with N := (a1.fdiv (2 ^ 31)) == 1 } : Sapi_Regs)], own 25 eSapi_Regs (some ad6) 1 [(⟨(Vector.replicate 16 0), 0, false, false, false, false⟩ : Sapi_Regs)]] := hw
 refine go_pvs 7 8 [2, 4, 9, 11] hs (L' := [(2, .pointer (some ad2)), (4, .pointer (some ad6)), (9, .bool (a1 == 0)), (11, .pointer (some ((ad2 : Addr).add 18)))]) (by kernel_rfl) ?_ rfl
 clear hs; intro a hs
 obtain ⟨wd13, hx14, hw⟩ := x_put (P := Try.prog) (ty := 0) (t := 4) (x := (Operand.tmp 11)) (y := (Operand.tmp 9)) (off := 18) (p := (ad2 : Addr).add 18) (v := .bool (a1 == 0)) (vs := [.bool (a1 == 0)]) (i := 0) (e' := (({ ({ a0 with N := (a1.fdiv (2 ^ 31)) == 1 } : Sapi_Regs) with Z := a1 == 0 } : Sapi_Regs) : Sapi_Regs)) hs hw rfl (one_ok ({ a0 with N := (a1.fdiv (2 ^ 31)) == 1 } : Sapi_Regs)).1 (one_ok ({ a0 with N := (a1.fdiv (2 ^ 31)) == 1 } : Sapi_Regs)).2 (by kernel_rfl) (one_off _ _ _) (by kernel_rfl) rfl (by kernel_rfl) (Nat.le_of_ble_eq_true rfl) (by simp [Value.oneCell']) (by kernel_rfl)
 refine go_unit hs (op := (Op.store 4 (Operand.tmp 11) (Operand.tmp 9))) (ty := 0) (dst := none) (g := none) (by kernel_rfl) (by kernel_rfl) (by kernel_rfl) hx14 [2, 4] (L' := [(2, .pointer (some ad2)), (4, .pointer (some ad6))]) (by kernel_rfl) ?_
 clear hs; intro a hs
 replace hw : St [] w0 wd13 [own 25 eSapi_Regs (some ad2) 1 [({ ({ a0 with N := (a1.fdiv (2 ^ 31)) == 1 } : Sapi_Regs) with Z := a1 == 0 } : Sapi_Regs)], own 25 eSapi_Regs (some ad6) 1 [(⟨(Vector.replicate 16 0), 0, false, false, false, false⟩ : Sapi_Regs)]] := hw
 refine go_end (by kernel_rfl) ?_
 refine hK10 _ _ ?_
 refine go_seq_k fun K15 hK15 => ?_
 refine go_region ?_
 refine go_run hs (op := (Op.load 25 (Operand.tmp 2))) (ty := 25) (dst := some 12) (g := none) (by kernel_rfl) (by kernel_rfl) (by kernel_rfl) (x_lds (E := eSapi_Regs) (off := 0) (p := ad2) (cs := (eSapi_Regs.enc ({ ({ a0 with N := (a1.fdiv (2 ^ 31)) == 1 } : Sapi_Regs) with Z := a1 == 0 } : Sapi_Regs))) (Rd.of_own (hw.up 0)) (one_ok ({ ({ a0 with N := (a1.fdiv (2 ^ 31)) == 1 } : Sapi_Regs) with Z := a1 == 0 } : Sapi_Regs)).1 (one_ok ({ ({ a0 with N := (a1.fdiv (2 ^ 31)) == 1 } : Sapi_Regs) with Z := a1 == 0 } : Sapi_Regs)).2 (by kernel_rfl) (one_at _ _) (by kernel_rfl) (by kernel_rfl) (by kernel_rfl)) [4, 12] (L' := [(4, .pointer (some ad6)), (12, .agg (eSapi_Regs.enc ({ ({ a0 with N := (a1.fdiv (2 ^ 31)) == 1 } : Sapi_Regs) with Z := a1 == 0 } : Sapi_Regs)).toArray)]) (by kernel_rfl) ?_
 clear hs; intro a hs
 replace hw := hw.up 1
 obtain ⟨wd16, hx17, hw⟩ := x_put (P := Try.prog) (ty := 0) (t := 25) (x := (Operand.tmp 4)) (y := (Operand.tmp 12)) (off := 0) (p := ad6) (v := .agg (eSapi_Regs.enc ({ ({ a0 with N := (a1.fdiv (2 ^ 31)) == 1 } : Sapi_Regs) with Z := a1 == 0 } : Sapi_Regs)).toArray) (vs := (eSapi_Regs.enc ({ ({ a0 with N := (a1.fdiv (2 ^ 31)) == 1 } : Sapi_Regs) with Z := a1 == 0 } : Sapi_Regs))) (i := 0) (e' := (({ ({ a0 with N := (a1.fdiv (2 ^ 31)) == 1 } : Sapi_Regs) with Z := a1 == 0 } : Sapi_Regs) : Sapi_Regs)) hs hw rfl (one_ok (⟨(Vector.replicate 16 0), 0, false, false, false, false⟩ : Sapi_Regs)).1 (one_ok (⟨(Vector.replicate 16 0), 0, false, false, false, false⟩ : Sapi_Regs)).2 (by kernel_rfl) (one_at _ _) (by kernel_rfl) rfl (by kernel_rfl) (Nat.le_of_ble_eq_true rfl) (eSapi_Regs.one _) (by kernel_rfl)
 refine go_unit hs (op := (Op.store 25 (Operand.tmp 4) (Operand.tmp 12))) (ty := 0) (dst := none) (g := none) (by kernel_rfl) (by kernel_rfl) (by kernel_rfl) hx17 [4] (L' := [(4, .pointer (some ad6))]) (by kernel_rfl) ?_
 clear hs; intro a hs
 replace hw : St [] w0 wd16 [own 25 eSapi_Regs (some ad6) 1 [({ ({ a0 with N := (a1.fdiv (2 ^ 31)) == 1 } : Sapi_Regs) with Z := a1 == 0 } : Sapi_Regs)], own 25 eSapi_Regs (some ad2) 1 [({ ({ a0 with N := (a1.fdiv (2 ^ 31)) == 1 } : Sapi_Regs) with Z := a1 == 0 } : Sapi_Regs)]] := hw
 refine go_end (by kernel_rfl) ?_
 refine hK15 _ _ ?_
 refine wp_ret ?_
 obtain rfl := Option.some.inj H
 refine ret1g (L := [(4, .pointer (some ad6))]) (r1 := .cell 4 25) (v1 := .agg (eSapi_Regs.enc ({ ({ a0 with N := (a1.fdiv (2 ^ 31)) == 1 } : Sapi_Regs) with Z := a1 == 0 } : Sapi_Regs)).toArray) hs (by kernel_rfl) ⟨_, (show lk 4 [(4, .pointer (some ad6))] = some (.pointer (some ad6)) by kernel_rfl), lv_row (E := eSapi_Regs) (x := ({ ({ a0 with N := (a1.fdiv (2 ^ 31)) == 1 } : Sapi_Regs) with Z := a1 == 0 } : Sapi_Regs)) (by kernel_rfl) (by kernel_rfl) (Rd.of_own (hw.up 0))⟩ ?_
 exact ⟨rfl, hw.only 0⟩

/-! rivet/alu.flags: function 18 -/
noncomputable def alu_flags.j1 (v11 : Int) (v22 : Int) : Option (Int × Int ⊕ Int) := some (.inl (v22, w64 (v11 + 1)))
noncomputable def alu_flags.j2 (v24 : Int) : Option Int := some v24
noncomputable def alu_flags.b9 (a0 : Sapi_Regs) (v10 : Int) (v11 : Int) : Option (Int × Int ⊕ Int) := (if v11 < 4 then (if 0 ≤ v11 ∧ v11 < ((4 : Nat) : Int) then (if (vx false (#v[a0.N, a0.Z, a0.C, a0.V] : Vector Bool 4) (v11 : Int).toNat) = true then (if 0 ≤ (w64 (31 - v11)) then alu_flags.j1 v11 (bor .u32 v10 (shl .u32 1 (w64 (31 - v11)))) else none) else alu_flags.j1 v11 v10) else none) else some (.inr v10))
noncomputable def alu_flags (a0 : Sapi_Regs) : Option Int := ((loopO (fun (σ : Int × Int) => alu_flags.b9 a0 σ.1 σ.2) (0, 0)).bind fun e => alu_flags.j2 e)
set_option maxRecDepth 100000 in
set_option maxHeartbeats 4000000 in
theorem alu_flags.calls (a0 : Sapi_Regs) (r : Int) (w0 : World) (H : alu_flags a0 = some r) :
    Calls Try.prog 18 #[.agg (eSapi_Regs.enc a0).toArray] w0 fun e w' => e = .returned (.int .u32 r) ∧ St [] w0 w' [] := by
 have hw : St [] w0 w0 [] := St.nil w0
 unfold alu_flags at H
 refine go_fn Try.func18 rfl 27 Try.ntmps18 [(0, .agg (eSapi_Regs.enc a0).toArray)] (by kernel_rfl) rfl ?_
 intro a hs
 refine go_seq_k fun K1 hK1 => ?_
 refine go_region ?_
 obtain ⟨ad2, wd3, hx4, hw⟩ := x_box1 (P := Try.prog) (elem := 25) (v := (Operand.tmp 0)) (ty := 0) hs hw eSapi_Regs a0 (by kernel_rfl)
 refine go_run hs (op := (Op.box 25 (Operand.tmp 0))) (ty := 0) (dst := some 1) (g := none) (by kernel_rfl) (by kernel_rfl) (by kernel_rfl) hx4 [1] (L' := [(1, .pointer (some ad2))]) (by kernel_rfl) ?_
 clear hs; intro a hs
 refine go_pvs 1 2 [1] hs (L' := [(1, .pointer (some ad2))]) (by kernel_rfl) ?_ rfl
 clear hs; intro a hs
 refine go_end (by kernel_rfl) ?_
 refine hK1 _ _ ?_
 refine go_seq_k fun K6 hK6 => ?_
 refine go_region ?_
 refine go_pvs 0 1 [1, 3] hs (L' := [(1, .pointer (some ad2)), (3, .int .u32 0)]) (by kernel_rfl) ?_ rfl
 clear hs; intro a hs
 refine go_end (by kernel_rfl) ?_
 refine hK6 _ _ ?_
 refine go_seq_k fun K7 hK7 => ?_
 refine go_seq_k fun K8 hK8 => ?_
 refine go_region ?_
 refine go_pvs 0 1 [1, 3, 6] hs (L' := [(1, .pointer (some ad2)), (3, .int .u32 0), (6, .pointer (some ((ad2 : Addr).add 17)))]) (by kernel_rfl) ?_ rfl
 clear hs; intro a hs
 refine go_run hs (op := (Op.load 4 (Operand.tmp 6))) (ty := 4) (dst := some 7) (g := none) (by kernel_rfl) (by kernel_rfl) (by kernel_rfl) (x_ld (E := eSapi_Regs) (off := 17) (p := (ad2 : Addr).add 17) (v := .bool a0.N) (Rd.of_own (hw.up 0)) (one_ok a0).1 (one_ok a0).2 (by kernel_rfl) (one_off _ _ _) (by kernel_rfl) (by kernel_rfl)) [1, 3, 7] (L' := [(1, .pointer (some ad2)), (3, .int .u32 0), (7, .bool a0.N)]) (by kernel_rfl) ?_
 clear hs; intro a hs
 refine go_pvs 2 3 [1, 3, 7, 8] hs (L' := [(1, .pointer (some ad2)), (3, .int .u32 0), (7, .bool a0.N), (8, .pointer (some ((ad2 : Addr).add 18)))]) (by kernel_rfl) ?_ rfl
 clear hs; intro a hs
 refine go_run hs (op := (Op.load 4 (Operand.tmp 8))) (ty := 4) (dst := some 9) (g := none) (by kernel_rfl) (by kernel_rfl) (by kernel_rfl) (x_ld (E := eSapi_Regs) (off := 18) (p := (ad2 : Addr).add 18) (v := .bool a0.Z) (Rd.of_own (hw.up 0)) (one_ok a0).1 (one_ok a0).2 (by kernel_rfl) (one_off _ _ _) (by kernel_rfl) (by kernel_rfl)) [1, 3, 7, 9] (L' := [(1, .pointer (some ad2)), (3, .int .u32 0), (7, .bool a0.N), (9, .bool a0.Z)]) (by kernel_rfl) ?_
 clear hs; intro a hs
 refine go_pvs 4 5 [1, 3, 7, 9, 10] hs (L' := [(1, .pointer (some ad2)), (3, .int .u32 0), (7, .bool a0.N), (9, .bool a0.Z), (10, .pointer (some ((ad2 : Addr).add 19)))]) (by kernel_rfl) ?_ rfl
 clear hs; intro a hs
 refine go_run hs (op := (Op.load 4 (Operand.tmp 10))) (ty := 4) (dst := some 11) (g := none) (by kernel_rfl) (by kernel_rfl) (by kernel_rfl) (x_ld (E := eSapi_Regs) (off := 19) (p := (ad2 : Addr).add 19) (v := .bool a0.C) (Rd.of_own (hw.up 0)) (one_ok a0).1 (one_ok a0).2 (by kernel_rfl) (one_off _ _ _) (by kernel_rfl) (by kernel_rfl)) [1, 3, 7, 9, 11] (L' := [(1, .pointer (some ad2)), (3, .int .u32 0), (7, .bool a0.N), (9, .bool a0.Z), (11, .bool a0.C)]) (by kernel_rfl) ?_
 clear hs; intro a hs
 refine go_pvs 6 7 [3, 7, 9, 11, 12] hs (L' := [(3, .int .u32 0), (7, .bool a0.N), (9, .bool a0.Z), (11, .bool a0.C), (12, .pointer (some ((ad2 : Addr).add 20)))]) (by kernel_rfl) ?_ rfl
 clear hs; intro a hs
 refine go_run hs (op := (Op.load 4 (Operand.tmp 12))) (ty := 4) (dst := some 13) (g := none) (by kernel_rfl) (by kernel_rfl) (by kernel_rfl) (x_ld (E := eSapi_Regs) (off := 20) (p := (ad2 : Addr).add 20) (v := .bool a0.V) (Rd.of_own (hw.up 0)) (one_ok a0).1 (one_ok a0).2 (by kernel_rfl) (one_off _ _ _) (by kernel_rfl) (by kernel_rfl)) [3, 7, 9, 11, 13] (L' := [(3, .int .u32 0), (7, .bool a0.N), (9, .bool a0.Z), (11, .bool a0.C), (13, .bool a0.V)]) (by kernel_rfl) ?_
 clear hs; intro a hs
 refine go_pvs 8 10 [3, 14, 15] hs (L' := [(3, .int .u32 0), (14, .agg (eA65.enc (#v[a0.N, a0.Z, a0.C, a0.V] : Vector Bool 4)).toArray), (15, .int .i64 0)]) (by kernel_rfl) ?_ rfl
 clear hs; intro a hs
 refine go_end (by kernel_rfl) ?_
 refine hK8 _ _ ?_
 refine wp_block ?_
 obtain ⟨e9, hl9, HX9⟩ := bind_some H
 have hJ2 : ∀ (v24 : Int) (a : Act) (w : World), Slots a 27 [(3, .int .u32 v24)] → St [] w0 w [own 25 eSapi_Regs (some ad2) 1 [a0]] → alu_flags.j2 v24 = some r → K7 a w := by
  intro v24 a w hs hw H
  unfold alu_flags.j2 at H
  refine hK7 _ _ ?_
  refine go_seq_k fun K25 hK25 => ?_
  refine go_region ?_
  refine go_pvs 0 2 [2] hs (L' := [(2, .int .u32 v24)]) (by kernel_rfl) ?_ rfl
  clear hs; intro a hs
  refine go_end (by kernel_rfl) ?_
  refine hK25 _ _ ?_
  refine wp_ret ?_
  obtain rfl := Option.some.inj H
  refine ret1 (t := 2) (v := .int .u32 v24) hs (by kernel_rfl) (by kernel_rfl) ?_
  exact ⟨rfl, hw.only 0⟩
 clear H
 refine go_loop (σ := Int × Int) (fun σ a w => Slots a 27 [(3, .int .u32 σ.1), (14, .agg (eA65.enc (#v[a0.N, a0.Z, a0.C, a0.V] : Vector Bool 4)).toArray), (15, .int .i64 σ.2)] ∧ St [] w0 w [own 25 eSapi_Regs (some ad2) 1 [a0]]) hl9 (by exact ⟨hs.keep [3, 14, 15] (by kernel_rfl), hw⟩) ?_
 rintro ⟨v10, v11⟩ a w ⟨hs, hw⟩ o H hr9
 replace hs : Slots a 27 [(3, .int .u32 v10), (14, .agg (eA65.enc (#v[a0.N, a0.Z, a0.C, a0.V] : Vector Bool 4)).toArray), (15, .int .i64 v11)] := hs
 replace hw : St [] w0 w [own 25 eSapi_Regs (some ad2) 1 [a0]] := hw
 replace H : alu_flags.b9 a0 v10 v11 = some o := H
 unfold alu_flags.b9 at H
 refine go_seq_k fun K12 hK12 => ?_
 refine go_region ?_
 refine go_pvs 0 1 [3, 14, 15, 16] hs (L' := [(3, .int .u32 v10), (14, .agg (eA65.enc (#v[a0.N, a0.Z, a0.C, a0.V] : Vector Bool 4)).toArray), (15, .int .i64 v11), (16, .bool (decide (v11 < 4)))]) (by kernel_rfl) ?_ rfl
 clear hs; intro a hs
 refine go_end (by kernel_rfl) ?_
 refine hK12 _ _ ?_
 refine go_seq_k fun K13 hK13 => ?_
 refine go_cond hs (decide (v11 < 4)) (by kernel_rfl) (fun hc => ?_) (fun hc => ?_)
 ·replace H := ite_t H (of_decide_eq_true hc)
  have hb14 := hc
  rw [hb14] at hs
  refine wp_skip ?_
  refine hK13 _ _ ?_
  refine go_seq_k fun K15 hK15 => ?_
  have hJ1 : ∀ (v22 : Int) (a : Act) (w : World), Slots a 27 [(3, .int .u32 v22), (14, .agg (eA65.enc (#v[a0.N, a0.Z, a0.C, a0.V] : Vector Bool 4)).toArray), (15, .int .i64 v11)] → St [] w0 w [own 25 eSapi_Regs (some ad2) 1 [a0]] → alu_flags.j1 v11 v22 = some o → K15 a w := by
   intro v22 a w hs hw H
   unfold alu_flags.j1 at H
   refine hK15 _ _ ?_
   refine go_region ?_
   refine go_pvs 0 2 [3, 14, 15] hs (L' := [(3, .int .u32 v22), (14, .agg (eA65.enc (#v[a0.N, a0.Z, a0.C, a0.V] : Vector Bool 4)).toArray), (15, .int .i64 (w64 (v11 + 1)))]) (by kernel_rfl) ?_ rfl
   clear hs; intro a hs
   refine go_end (by kernel_rfl) ?_
   replace hw := hw.only 1
   exact round_end (v22, w64 (v11 + 1)) (Option.some.inj H).symm ⟨hs.keep [3, 14, 15] (by kernel_rfl), hw⟩
  refine wp_block ?_
  refine go_seq_k fun K16 hK16 => ?_
  refine go_region ?_
  refine go_pvs 0 1 [3, 14, 15, 17] hs (L' := [(3, .int .u32 v10), (14, .agg (eA65.enc (#v[a0.N, a0.Z, a0.C, a0.V] : Vector Bool 4)).toArray), (15, .int .i64 v11), (17, .int .i64 v11)]) (by kernel_rfl) ?_ rfl
  clear hs; intro a hs
  obtain ⟨hp17, H⟩ := ite_only H
  refine go_run hs (op := (Op.index 65 (Operand.tmp 14) (Operand.tmp 15))) (ty := 4) (dst := some 18) (g := none) (by kernel_rfl) (by kernel_rfl) (by kernel_rfl) (x_aidx (e := 4) (m := 4) (k := .i64) (i := v11) (cs := (eA65.enc (#v[a0.N, a0.Z, a0.C, a0.V] : Vector Bool 4))) (v := .bool (vx false (#v[a0.N, a0.Z, a0.C, a0.V] : Vector Bool 4) (v11 : Int).toNat)) (by kernel_rfl) (by kernel_rfl) (by kernel_rfl) (by kernel_rfl) (by kernel_rfl) hp17.1 hp17.2 (vget (cs := (eA65.enc (#v[a0.N, a0.Z, a0.C, a0.V] : Vector Bool 4))) (pre := []) (post := []) (f := (fun j : Nat => .bool (vx false (#v[a0.N, a0.Z, a0.C, a0.V] : Vector Bool 4) j))) (n := 4) (o := 0) (i := (v11 : Int).toNat) (by kernel_rfl) rfl (by have := hp17; omega))) [3, 14, 15, 17, 18] (L' := [(3, .int .u32 v10), (14, .agg (eA65.enc (#v[a0.N, a0.Z, a0.C, a0.V] : Vector Bool 4)).toArray), (15, .int .i64 v11), (17, .int .i64 v11), (18, .bool (vx false (#v[a0.N, a0.Z, a0.C, a0.V] : Vector Bool 4) (v11 : Int).toNat))]) (by kernel_rfl) ?_
  clear hs; intro a hs
  refine go_pvs 2 4 [3, 4, 5, 14, 15] hs (L' := [(3, .int .u32 v10), (4, .int .i64 v11), (5, .bool (vx false (#v[a0.N, a0.Z, a0.C, a0.V] : Vector Bool 4) (v11 : Int).toNat)), (14, .agg (eA65.enc (#v[a0.N, a0.Z, a0.C, a0.V] : Vector Bool 4)).toArray), (15, .int .i64 v11)]) (by kernel_rfl) ?_ rfl
  clear hs; intro a hs
  refine go_end (by kernel_rfl) ?_
  refine hK16 _ _ ?_
  refine go_seq_k fun K18 hK18 => ?_
  refine go_region ?_
  refine go_pvs 0 1 [3, 4, 14, 15, 19] hs (L' := [(3, .int .u32 v10), (4, .int .i64 v11), (14, .agg (eA65.enc (#v[a0.N, a0.Z, a0.C, a0.V] : Vector Bool 4)).toArray), (15, .int .i64 v11), (19, .bool (vx false (#v[a0.N, a0.Z, a0.C, a0.V] : Vector Bool 4) (v11 : Int).toNat))]) (by kernel_rfl) ?_ rfl
  clear hs; intro a hs
  refine go_end (by kernel_rfl) ?_
  refine hK18 _ _ ?_
  refine go_cond hs (vx false (#v[a0.N, a0.Z, a0.C, a0.V] : Vector Bool 4) (v11 : Int).toNat) (by kernel_rfl) (fun hc => ?_) (fun hc => ?_)
  ·replace H := ite_t H hc
   have hb19 := hc
   rw [hb19] at hs
   refine go_region ?_
   refine go_pvs 0 3 [14, 15, 20, 22] hs (L' := [(14, .agg (eA65.enc (#v[a0.N, a0.Z, a0.C, a0.V] : Vector Bool 4)).toArray), (15, .int .i64 v11), (20, .int .u32 v10), (22, .int .i64 (w64 (31 - v11)))]) (by kernel_rfl) ?_ rfl
   clear hs; intro a hs
   obtain ⟨hp20, H⟩ := ite_only H
   refine go_run hs (op := (Op.binOp BinOp.shl 22 (Operand.const (Value.int IntKind.u32 1)) (Operand.tmp 22) 3)) (ty := 22) (dst := some 23) (g := none) (by kernel_rfl) (by kernel_rfl) (by kernel_rfl) (x_shl (k := .u32) (k' := .i64) (m := 1) (n := w64 (31 - v11)) (by kernel_rfl) (by kernel_rfl) hp20) [14, 15, 20, 23] (L' := [(14, .agg (eA65.enc (#v[a0.N, a0.Z, a0.C, a0.V] : Vector Bool 4)).toArray), (15, .int .i64 v11), (20, .int .u32 v10), (23, .int .u32 (shl .u32 1 (w64 (31 - v11))))]) (by kernel_rfl) ?_
   clear hs; intro a hs
   refine go_pvs 4 6 [3, 14, 15] hs (L' := [(3, .int .u32 (bor .u32 v10 (shl .u32 1 (w64 (31 - v11))))), (14, .agg (eA65.enc (#v[a0.N, a0.Z, a0.C, a0.V] : Vector Bool 4)).toArray), (15, .int .i64 v11)]) (by kernel_rfl) ?_ rfl
   clear hs; intro a hs
   refine go_end (by kernel_rfl) ?_
   refine ib_norm ?_
   replace hw := hw.only 1
   exact hJ1 (bor .u32 v10 (shl .u32 1 (w64 (31 - v11)))) _ _ (hs.keep [3, 14, 15] (by kernel_rfl)) hw H
  ·replace H := ite_f H (ff hc)
   have hb21 := hc
   rw [hb21] at hs
   refine wp_skip ?_
   refine ib_norm ?_
   replace hw := hw.only 1
   exact hJ1 v10 _ _ (hs.keep [3, 14, 15] (by kernel_rfl)) hw H
 ·replace H := ite_f H (of_decide_eq_false hc)
  have hb23 := hc
  rw [hb23] at hs
  refine wp_exit ?_
  refine th_exit ?_
  refine th_exit ?_
  refine in_block ?_
  replace hw := hw.only 1
  rw [← hr9 _ (Option.some.inj H).symm] at HX9
  exact hJ2 v10 _ _ (hs.keep [3] (by kernel_rfl)) hw HX9

/-! rivet/alu.Taken: function 15 -/
noncomputable def alu_Taken.j3 (v22 : Bool) : Option Bool := some v22
noncomputable def alu_Taken.j2 (a0 : Sapi_Regs) (a1 : Int) : Option Bool := (if a0.C = true then (if (a0.N != a0.V) = true then (if 0 ≤ (band .i64 a1 7) ∧ (band .i64 a1 7) < ((8 : Nat) : Int) then alu_Taken.j3 ((vx false (#v[a0.N, a0.Z, true, a0.V, true, true, true, true] : Vector Bool 8) (band .i64 a1 7 : Int).toNat) != (decide (a1 > 7))) else none) else (if 0 ≤ (band .i64 a1 7) ∧ (band .i64 a1 7) < ((8 : Nat) : Int) then alu_Taken.j3 ((vx false (#v[a0.N, a0.Z, true, a0.V, true, false, a0.Z, true] : Vector Bool 8) (band .i64 a1 7 : Int).toNat) != (decide (a1 > 7))) else none)) else (if (a0.N != a0.V) = true then (if 0 ≤ (band .i64 a1 7) ∧ (band .i64 a1 7) < ((8 : Nat) : Int) then alu_Taken.j3 ((vx false (#v[a0.N, a0.Z, false, a0.V, a0.Z, true, true, true] : Vector Bool 8) (band .i64 a1 7 : Int).toNat) != (decide (a1 > 7))) else none) else (if 0 ≤ (band .i64 a1 7) ∧ (band .i64 a1 7) < ((8 : Nat) : Int) then alu_Taken.j3 ((vx false (#v[a0.N, a0.Z, false, a0.V, a0.Z, false, a0.Z, true] : Vector Bool 8) (band .i64 a1 7 : Int).toNat) != (decide (a1 > 7))) else none)))
noncomputable def alu_Taken.j1 (a0 : Sapi_Regs) (a1 : Int) (v9 : Bool) : Option Bool := (if v9 = true then some false else alu_Taken.j2 a0 a1)
noncomputable def alu_Taken (a0 : Sapi_Regs) (a1 : Int) : Option Bool := (if a1 < 0 then alu_Taken.j1 a0 a1 true else alu_Taken.j1 a0 a1 (decide (a1 > 15)))
set_option maxRecDepth 100000 in
set_option maxHeartbeats 4000000 in
theorem alu_Taken.calls (a0 : Sapi_Regs) (a1 : Int) (r : Bool) (w0 : World) (H : alu_Taken a0 a1 = some r) :
    Calls Try.prog 15 #[.agg (eSapi_Regs.enc a0).toArray, .int .i64 a1] w0 fun e w' => e = .returned (.bool r) ∧ St [] w0 w' [] := by
 have hw : St [] w0 w0 [] := St.nil w0
 unfold alu_Taken at H
 refine go_fn Try.func15 rfl 44 Try.ntmps15 [(0, .agg (eSapi_Regs.enc a0).toArray), (1, .int .i64 a1)] (by kernel_rfl) rfl ?_
 intro a hs
 refine go_seq_k fun K1 hK1 => ?_
 refine go_region ?_
 obtain ⟨ad2, wd3, hx4, hw⟩ := x_box1 (P := Try.prog) (elem := 25) (v := (Operand.tmp 0)) (ty := 0) hs hw eSapi_Regs a0 (by kernel_rfl)
 refine go_run hs (op := (Op.box 25 (Operand.tmp 0))) (ty := 0) (dst := some 2) (g := none) (by kernel_rfl) (by kernel_rfl) (by kernel_rfl) hx4 [1, 2] (L' := [(1, .int .i64 a1), (2, .pointer (some ad2))]) (by kernel_rfl) ?_
 clear hs; intro a hs
 refine go_pvs 1 2 [1, 2] hs (L' := [(1, .int .i64 a1), (2, .pointer (some ad2))]) (by kernel_rfl) ?_ rfl
 clear hs; intro a hs
 refine go_end (by kernel_rfl) ?_
 refine hK1 _ _ ?_
 refine go_seq_k fun K6 hK6 => ?_
 have hJ2 : ∀ (a : Act) (w : World), Slots a 44 [(1, .int .i64 a1), (2, .pointer (some ad2))] → St [] w0 w [own 25 eSapi_Regs (some ad2) 1 [a0]] → alu_Taken.j2 a0 a1 = some r → K6 a w := by
  intro a w hs hw H
  unfold alu_Taken.j2 at H
  refine hK6 _ _ ?_
  refine go_seq_k fun K13 hK13 => ?_
  refine go_region ?_
  refine go_pvs 0 1 [1, 2, 12] hs (L' := [(1, .int .i64 a1), (2, .pointer (some ad2)), (12, .pointer (some ((ad2 : Addr).add 17)))]) (by kernel_rfl) ?_ rfl
  clear hs; intro a hs
  refine go_run hs (op := (Op.load 4 (Operand.tmp 12))) (ty := 4) (dst := some 13) (g := none) (by kernel_rfl) (by kernel_rfl) (by kernel_rfl) (x_ld (E := eSapi_Regs) (off := 17) (p := (ad2 : Addr).add 17) (v := .bool a0.N) (Rd.of_own (hw.up 0)) (one_ok a0).1 (one_ok a0).2 (by kernel_rfl) (one_off _ _ _) (by kernel_rfl) (by kernel_rfl)) [1, 2, 13] (L' := [(1, .int .i64 a1), (2, .pointer (some ad2)), (13, .bool a0.N)]) (by kernel_rfl) ?_
  clear hs; intro a hs
  refine go_pvs 2 3 [1, 2, 13, 14] hs (L' := [(1, .int .i64 a1), (2, .pointer (some ad2)), (13, .bool a0.N), (14, .pointer (some ((ad2 : Addr).add 20)))]) (by kernel_rfl) ?_ rfl
  clear hs; intro a hs
  refine go_run hs (op := (Op.load 4 (Operand.tmp 14))) (ty := 4) (dst := some 15) (g := none) (by kernel_rfl) (by kernel_rfl) (by kernel_rfl) (x_ld (E := eSapi_Regs) (off := 20) (p := (ad2 : Addr).add 20) (v := .bool a0.V) (Rd.of_own (hw.up 0)) (one_ok a0).1 (one_ok a0).2 (by kernel_rfl) (one_off _ _ _) (by kernel_rfl) (by kernel_rfl)) [1, 2, 13, 15] (L' := [(1, .int .i64 a1), (2, .pointer (some ad2)), (13, .bool a0.N), (15, .bool a0.V)]) (by kernel_rfl) ?_
  clear hs; intro a hs
  refine go_pvs 4 6 [1, 2, 5] hs (L' := [(1, .int .i64 a1), (2, .pointer (some ad2)), (5, .bool (a0.N != a0.V))]) (by kernel_rfl) ?_ rfl
  clear hs; intro a hs
  refine go_end (by kernel_rfl) ?_
  refine hK13 _ _ ?_
  refine go_seq_k fun K14 hK14 => ?_
  have hJ3 : ∀ (v22 : Bool) (a : Act) (w : World), Slots a 44 [(4, .bool v22)] → St [] w0 w [own 25 eSapi_Regs (some ad2) 1 [a0]] → alu_Taken.j3 v22 = some r → K14 a w := by
   intro v22 a w hs hw H
   unfold alu_Taken.j3 at H
   refine hK14 _ _ ?_
   refine wp_ret ?_
   obtain rfl := Option.some.inj H
   refine ret1 (t := 4) (v := .bool v22) hs (by kernel_rfl) (by kernel_rfl) ?_
   exact ⟨rfl, hw.only 0⟩
  refine go_region ?_
  refine go_pvs 0 1 [1, 2, 5, 17] hs (L' := [(1, .int .i64 a1), (2, .pointer (some ad2)), (5, .bool (a0.N != a0.V)), (17, .pointer (some ((ad2 : Addr).add 17)))]) (by kernel_rfl) ?_ rfl
  clear hs; intro a hs
  refine go_run hs (op := (Op.load 4 (Operand.tmp 17))) (ty := 4) (dst := some 18) (g := none) (by kernel_rfl) (by kernel_rfl) (by kernel_rfl) (x_ld (E := eSapi_Regs) (off := 17) (p := (ad2 : Addr).add 17) (v := .bool a0.N) (Rd.of_own (hw.up 0)) (one_ok a0).1 (one_ok a0).2 (by kernel_rfl) (one_off _ _ _) (by kernel_rfl) (by kernel_rfl)) [1, 2, 5, 18] (L' := [(1, .int .i64 a1), (2, .pointer (some ad2)), (5, .bool (a0.N != a0.V)), (18, .bool a0.N)]) (by kernel_rfl) ?_
  clear hs; intro a hs
  refine go_pvs 2 3 [1, 2, 5, 18, 19] hs (L' := [(1, .int .i64 a1), (2, .pointer (some ad2)), (5, .bool (a0.N != a0.V)), (18, .bool a0.N), (19, .pointer (some ((ad2 : Addr).add 18)))]) (by kernel_rfl) ?_ rfl
  clear hs; intro a hs
  refine go_run hs (op := (Op.load 4 (Operand.tmp 19))) (ty := 4) (dst := some 20) (g := none) (by kernel_rfl) (by kernel_rfl) (by kernel_rfl) (x_ld (E := eSapi_Regs) (off := 18) (p := (ad2 : Addr).add 18) (v := .bool a0.Z) (Rd.of_own (hw.up 0)) (one_ok a0).1 (one_ok a0).2 (by kernel_rfl) (one_off _ _ _) (by kernel_rfl) (by kernel_rfl)) [1, 2, 5, 18, 20] (L' := [(1, .int .i64 a1), (2, .pointer (some ad2)), (5, .bool (a0.N != a0.V)), (18, .bool a0.N), (20, .bool a0.Z)]) (by kernel_rfl) ?_
  clear hs; intro a hs
  refine go_pvs 4 5 [1, 2, 5, 18, 20, 21] hs (L' := [(1, .int .i64 a1), (2, .pointer (some ad2)), (5, .bool (a0.N != a0.V)), (18, .bool a0.N), (20, .bool a0.Z), (21, .pointer (some ((ad2 : Addr).add 19)))]) (by kernel_rfl) ?_ rfl
  clear hs; intro a hs
  refine go_run hs (op := (Op.load 4 (Operand.tmp 21))) (ty := 4) (dst := some 22) (g := none) (by kernel_rfl) (by kernel_rfl) (by kernel_rfl) (x_ld (E := eSapi_Regs) (off := 19) (p := (ad2 : Addr).add 19) (v := .bool a0.C) (Rd.of_own (hw.up 0)) (one_ok a0).1 (one_ok a0).2 (by kernel_rfl) (one_off _ _ _) (by kernel_rfl) (by kernel_rfl)) [1, 2, 5, 18, 20, 22] (L' := [(1, .int .i64 a1), (2, .pointer (some ad2)), (5, .bool (a0.N != a0.V)), (18, .bool a0.N), (20, .bool a0.Z), (22, .bool a0.C)]) (by kernel_rfl) ?_
  clear hs; intro a hs
  refine go_pvs 6 7 [1, 2, 5, 18, 20, 22, 23] hs (L' := [(1, .int .i64 a1), (2, .pointer (some ad2)), (5, .bool (a0.N != a0.V)), (18, .bool a0.N), (20, .bool a0.Z), (22, .bool a0.C), (23, .pointer (some ((ad2 : Addr).add 20)))]) (by kernel_rfl) ?_ rfl
  clear hs; intro a hs
  refine go_run hs (op := (Op.load 4 (Operand.tmp 23))) (ty := 4) (dst := some 24) (g := none) (by kernel_rfl) (by kernel_rfl) (by kernel_rfl) (x_ld (E := eSapi_Regs) (off := 20) (p := (ad2 : Addr).add 20) (v := .bool a0.V) (Rd.of_own (hw.up 0)) (one_ok a0).1 (one_ok a0).2 (by kernel_rfl) (one_off _ _ _) (by kernel_rfl) (by kernel_rfl)) [1, 2, 5, 18, 20, 22, 24] (L' := [(1, .int .i64 a1), (2, .pointer (some ad2)), (5, .bool (a0.N != a0.V)), (18, .bool a0.N), (20, .bool a0.Z), (22, .bool a0.C), (24, .bool a0.V)]) (by kernel_rfl) ?_
  clear hs; intro a hs
  refine go_pvs 8 9 [1, 2, 5, 18, 20, 22, 24, 25] hs (L' := [(1, .int .i64 a1), (2, .pointer (some ad2)), (5, .bool (a0.N != a0.V)), (18, .bool a0.N), (20, .bool a0.Z), (22, .bool a0.C), (24, .bool a0.V), (25, .pointer (some ((ad2 : Addr).add 19)))]) (by kernel_rfl) ?_ rfl
  clear hs; intro a hs
  refine go_run hs (op := (Op.load 4 (Operand.tmp 25))) (ty := 4) (dst := some 26) (g := none) (by kernel_rfl) (by kernel_rfl) (by kernel_rfl) (x_ld (E := eSapi_Regs) (off := 19) (p := (ad2 : Addr).add 19) (v := .bool a0.C) (Rd.of_own (hw.up 0)) (one_ok a0).1 (one_ok a0).2 (by kernel_rfl) (one_off _ _ _) (by kernel_rfl) (by kernel_rfl)) [1, 2, 5, 18, 20, 22, 24, 26] (L' := [(1, .int .i64 a1), (2, .pointer (some ad2)), (5, .bool (a0.N != a0.V)), (18, .bool a0.N), (20, .bool a0.Z), (22, .bool a0.C), (24, .bool a0.V), (26, .bool a0.C)]) (by kernel_rfl) ?_
  clear hs; intro a hs
  refine go_pvs 10 11 [1, 2, 5, 18, 20, 22, 24, 27] hs (L' := [(1, .int .i64 a1), (2, .pointer (some ad2)), (5, .bool (a0.N != a0.V)), (18, .bool a0.N), (20, .bool a0.Z), (22, .bool a0.C), (24, .bool a0.V), (27, .bool a0.C)]) (by kernel_rfl) ?_ rfl
  clear hs; intro a hs
  cases hb15 : a0.C
  ·replace H := ite_f H (ff hb15)
   rw [hb15] at hs
   refine go_pvs 11 12 [1, 2, 5, 18, 20, 22, 24, 27, 28] hs (L' := [(1, .int .i64 a1), (2, .pointer (some ad2)), (5, .bool (a0.N != a0.V)), (18, .bool a0.N), (20, .bool a0.Z), (22, .bool false), (24, .bool a0.V), (27, .bool false), (28, .pointer (some ((ad2 : Addr).add 18)))]) (by kernel_rfl) ?_ rfl
   clear hs; intro a hs
   refine go_run hs (op := (Op.load 4 (Operand.tmp 28))) (ty := 4) (dst := some 29) (g := some (10, false)) (by kernel_rfl) (by kernel_rfl) (by kernel_rfl) (x_ld (E := eSapi_Regs) (off := 18) (p := (ad2 : Addr).add 18) (v := .bool a0.Z) (Rd.of_own (hw.up 0)) (one_ok a0).1 (one_ok a0).2 (by kernel_rfl) (one_off _ _ _) (by kernel_rfl) (by kernel_rfl)) [1, 2, 5, 18, 20, 22, 24, 27, 29] (L' := [(1, .int .i64 a1), (2, .pointer (some ad2)), (5, .bool (a0.N != a0.V)), (18, .bool a0.N), (20, .bool a0.Z), (22, .bool false), (24, .bool a0.V), (27, .bool false), (29, .bool a0.Z)]) (by kernel_rfl) ?_
   clear hs; intro a hs
   refine go_pvs 13 17 [1, 2, 18, 20, 22, 24, 30, 31, 33] hs (L' := [(1, .int .i64 a1), (2, .pointer (some ad2)), (18, .bool a0.N), (20, .bool a0.Z), (22, .bool false), (24, .bool a0.V), (30, .bool a0.Z), (31, .bool (a0.N != a0.V)), (33, .bool (a0.N != a0.V))]) (by kernel_rfl) ?_ rfl
   clear hs; intro a hs
   cases hb16 : (a0.N != a0.V)
   ·replace H := ite_f H (ff hb16)
    rw [hb16] at hs
    refine go_pvs 17 18 [1, 18, 20, 22, 24, 30, 31, 33, 34] hs (L' := [(1, .int .i64 a1), (18, .bool a0.N), (20, .bool a0.Z), (22, .bool false), (24, .bool a0.V), (30, .bool a0.Z), (31, .bool false), (33, .bool false), (34, .pointer (some ((ad2 : Addr).add 18)))]) (by kernel_rfl) ?_ rfl
    clear hs; intro a hs
    refine go_run hs (op := (Op.load 4 (Operand.tmp 34))) (ty := 4) (dst := some 35) (g := some (16, false)) (by kernel_rfl) (by kernel_rfl) (by kernel_rfl) (x_ld (E := eSapi_Regs) (off := 18) (p := (ad2 : Addr).add 18) (v := .bool a0.Z) (Rd.of_own (hw.up 0)) (one_ok a0).1 (one_ok a0).2 (by kernel_rfl) (one_off _ _ _) (by kernel_rfl) (by kernel_rfl)) [1, 18, 20, 22, 24, 30, 31, 33, 35] (L' := [(1, .int .i64 a1), (18, .bool a0.N), (20, .bool a0.Z), (22, .bool false), (24, .bool a0.V), (30, .bool a0.Z), (31, .bool false), (33, .bool false), (35, .bool a0.Z)]) (by kernel_rfl) ?_
    clear hs; intro a hs
    refine go_pvs 19 23 [1, 37, 39] hs (L' := [(1, .int .i64 a1), (37, .agg (eA61.enc (#v[a0.N, a0.Z, false, a0.V, a0.Z, false, a0.Z, true] : Vector Bool 8)).toArray), (39, .int .i64 (band .i64 a1 7))]) (by kernel_rfl) ?_ rfl
    clear hs; intro a hs
    obtain ⟨hp17, H⟩ := ite_only H
    refine go_run hs (op := (Op.index 61 (Operand.tmp 37) (Operand.tmp 39))) (ty := 4) (dst := some 40) (g := none) (by kernel_rfl) (by kernel_rfl) (by kernel_rfl) (x_aidx (e := 4) (m := 8) (k := .i64) (i := (band .i64 a1 7)) (cs := (eA61.enc (#v[a0.N, a0.Z, false, a0.V, a0.Z, false, a0.Z, true] : Vector Bool 8))) (v := .bool (vx false (#v[a0.N, a0.Z, false, a0.V, a0.Z, false, a0.Z, true] : Vector Bool 8) (band .i64 a1 7 : Int).toNat)) (by kernel_rfl) (by kernel_rfl) (by kernel_rfl) (by kernel_rfl) (by kernel_rfl) hp17.1 hp17.2 (vget (cs := (eA61.enc (#v[a0.N, a0.Z, false, a0.V, a0.Z, false, a0.Z, true] : Vector Bool 8))) (pre := []) (post := []) (f := (fun j : Nat => .bool (vx false (#v[a0.N, a0.Z, false, a0.V, a0.Z, false, a0.Z, true] : Vector Bool 8) j))) (n := 8) (o := 0) (i := (band .i64 a1 7 : Int).toNat) (by kernel_rfl) rfl (by have := hp17; omega))) [1, 40] (L' := [(1, .int .i64 a1), (40, .bool (vx false (#v[a0.N, a0.Z, false, a0.V, a0.Z, false, a0.Z, true] : Vector Bool 8) (band .i64 a1 7 : Int).toNat))]) (by kernel_rfl) ?_
    clear hs; intro a hs
    refine go_pvs 24 28 [4] hs (L' := [(4, .bool ((vx false (#v[a0.N, a0.Z, false, a0.V, a0.Z, false, a0.Z, true] : Vector Bool 8) (band .i64 a1 7 : Int).toNat) != (decide (a1 > 7))))]) (by kernel_rfl) ?_ rfl
    clear hs; intro a hs
    refine go_end (by kernel_rfl) ?_
    replace hw := hw.only 1
    exact hJ3 ((vx false (#v[a0.N, a0.Z, false, a0.V, a0.Z, false, a0.Z, true] : Vector Bool 8) (band .i64 a1 7 : Int).toNat) != (decide (a1 > 7))) _ _ (hs.keep [4] (by kernel_rfl)) hw H
   ·replace H := ite_t H hb16
    rw [hb16] at hs
    refine go_pvs 17 23 [1, 37, 39] hs (L' := [(1, .int .i64 a1), (37, .agg (eA61.enc (#v[a0.N, a0.Z, false, a0.V, a0.Z, true, true, true] : Vector Bool 8)).toArray), (39, .int .i64 (band .i64 a1 7))]) (by kernel_rfl) ?_ rfl
    clear hs; intro a hs
    obtain ⟨hp18, H⟩ := ite_only H
    refine go_run hs (op := (Op.index 61 (Operand.tmp 37) (Operand.tmp 39))) (ty := 4) (dst := some 40) (g := none) (by kernel_rfl) (by kernel_rfl) (by kernel_rfl) (x_aidx (e := 4) (m := 8) (k := .i64) (i := (band .i64 a1 7)) (cs := (eA61.enc (#v[a0.N, a0.Z, false, a0.V, a0.Z, true, true, true] : Vector Bool 8))) (v := .bool (vx false (#v[a0.N, a0.Z, false, a0.V, a0.Z, true, true, true] : Vector Bool 8) (band .i64 a1 7 : Int).toNat)) (by kernel_rfl) (by kernel_rfl) (by kernel_rfl) (by kernel_rfl) (by kernel_rfl) hp18.1 hp18.2 (vget (cs := (eA61.enc (#v[a0.N, a0.Z, false, a0.V, a0.Z, true, true, true] : Vector Bool 8))) (pre := []) (post := []) (f := (fun j : Nat => .bool (vx false (#v[a0.N, a0.Z, false, a0.V, a0.Z, true, true, true] : Vector Bool 8) j))) (n := 8) (o := 0) (i := (band .i64 a1 7 : Int).toNat) (by kernel_rfl) rfl (by have := hp18; omega))) [1, 40] (L' := [(1, .int .i64 a1), (40, .bool (vx false (#v[a0.N, a0.Z, false, a0.V, a0.Z, true, true, true] : Vector Bool 8) (band .i64 a1 7 : Int).toNat))]) (by kernel_rfl) ?_
    clear hs; intro a hs
    refine go_pvs 24 28 [4] hs (L' := [(4, .bool ((vx false (#v[a0.N, a0.Z, false, a0.V, a0.Z, true, true, true] : Vector Bool 8) (band .i64 a1 7 : Int).toNat) != (decide (a1 > 7))))]) (by kernel_rfl) ?_ rfl
    clear hs; intro a hs
    refine go_end (by kernel_rfl) ?_
    replace hw := hw.only 1
    exact hJ3 ((vx false (#v[a0.N, a0.Z, false, a0.V, a0.Z, true, true, true] : Vector Bool 8) (band .i64 a1 7 : Int).toNat) != (decide (a1 > 7))) _ _ (hs.keep [4] (by kernel_rfl)) hw H
  ·replace H := ite_t H hb15
   rw [hb15] at hs
   refine go_pvs 11 17 [1, 2, 18, 20, 22, 24, 30, 31, 33] hs (L' := [(1, .int .i64 a1), (2, .pointer (some ad2)), (18, .bool a0.N), (20, .bool a0.Z), (22, .bool true), (24, .bool a0.V), (30, .bool true), (31, .bool (a0.N != a0.V)), (33, .bool (a0.N != a0.V))]) (by kernel_rfl) ?_ rfl
   clear hs; intro a hs
   cases hb19 : (a0.N != a0.V)
   ·replace H := ite_f H (ff hb19)
    rw [hb19] at hs
    refine go_pvs 17 18 [1, 18, 20, 22, 24, 30, 31, 33, 34] hs (L' := [(1, .int .i64 a1), (18, .bool a0.N), (20, .bool a0.Z), (22, .bool true), (24, .bool a0.V), (30, .bool true), (31, .bool false), (33, .bool false), (34, .pointer (some ((ad2 : Addr).add 18)))]) (by kernel_rfl) ?_ rfl
    clear hs; intro a hs
    refine go_run hs (op := (Op.load 4 (Operand.tmp 34))) (ty := 4) (dst := some 35) (g := some (16, false)) (by kernel_rfl) (by kernel_rfl) (by kernel_rfl) (x_ld (E := eSapi_Regs) (off := 18) (p := (ad2 : Addr).add 18) (v := .bool a0.Z) (Rd.of_own (hw.up 0)) (one_ok a0).1 (one_ok a0).2 (by kernel_rfl) (one_off _ _ _) (by kernel_rfl) (by kernel_rfl)) [1, 18, 20, 22, 24, 30, 31, 33, 35] (L' := [(1, .int .i64 a1), (18, .bool a0.N), (20, .bool a0.Z), (22, .bool true), (24, .bool a0.V), (30, .bool true), (31, .bool false), (33, .bool false), (35, .bool a0.Z)]) (by kernel_rfl) ?_
    clear hs; intro a hs
    refine go_pvs 19 23 [1, 37, 39] hs (L' := [(1, .int .i64 a1), (37, .agg (eA61.enc (#v[a0.N, a0.Z, true, a0.V, true, false, a0.Z, true] : Vector Bool 8)).toArray), (39, .int .i64 (band .i64 a1 7))]) (by kernel_rfl) ?_ rfl
    clear hs; intro a hs
    obtain ⟨hp20, H⟩ := ite_only H
    refine go_run hs (op := (Op.index 61 (Operand.tmp 37) (Operand.tmp 39))) (ty := 4) (dst := some 40) (g := none) (by kernel_rfl) (by kernel_rfl) (by kernel_rfl) (x_aidx (e := 4) (m := 8) (k := .i64) (i := (band .i64 a1 7)) (cs := (eA61.enc (#v[a0.N, a0.Z, true, a0.V, true, false, a0.Z, true] : Vector Bool 8))) (v := .bool (vx false (#v[a0.N, a0.Z, true, a0.V, true, false, a0.Z, true] : Vector Bool 8) (band .i64 a1 7 : Int).toNat)) (by kernel_rfl) (by kernel_rfl) (by kernel_rfl) (by kernel_rfl) (by kernel_rfl) hp20.1 hp20.2 (vget (cs := (eA61.enc (#v[a0.N, a0.Z, true, a0.V, true, false, a0.Z, true] : Vector Bool 8))) (pre := []) (post := []) (f := (fun j : Nat => .bool (vx false (#v[a0.N, a0.Z, true, a0.V, true, false, a0.Z, true] : Vector Bool 8) j))) (n := 8) (o := 0) (i := (band .i64 a1 7 : Int).toNat) (by kernel_rfl) rfl (by have := hp20; omega))) [1, 40] (L' := [(1, .int .i64 a1), (40, .bool (vx false (#v[a0.N, a0.Z, true, a0.V, true, false, a0.Z, true] : Vector Bool 8) (band .i64 a1 7 : Int).toNat))]) (by kernel_rfl) ?_
    clear hs; intro a hs
    refine go_pvs 24 28 [4] hs (L' := [(4, .bool ((vx false (#v[a0.N, a0.Z, true, a0.V, true, false, a0.Z, true] : Vector Bool 8) (band .i64 a1 7 : Int).toNat) != (decide (a1 > 7))))]) (by kernel_rfl) ?_ rfl
    clear hs; intro a hs
    refine go_end (by kernel_rfl) ?_
    replace hw := hw.only 1
    exact hJ3 ((vx false (#v[a0.N, a0.Z, true, a0.V, true, false, a0.Z, true] : Vector Bool 8) (band .i64 a1 7 : Int).toNat) != (decide (a1 > 7))) _ _ (hs.keep [4] (by kernel_rfl)) hw H
   ·replace H := ite_t H hb19
    rw [hb19] at hs
    refine go_pvs 17 23 [1, 37, 39] hs (L' := [(1, .int .i64 a1), (37, .agg (eA61.enc (#v[a0.N, a0.Z, true, a0.V, true, true, true, true] : Vector Bool 8)).toArray), (39, .int .i64 (band .i64 a1 7))]) (by kernel_rfl) ?_ rfl
    clear hs; intro a hs
    obtain ⟨hp21, H⟩ := ite_only H
    refine go_run hs (op := (Op.index 61 (Operand.tmp 37) (Operand.tmp 39))) (ty := 4) (dst := some 40) (g := none) (by kernel_rfl) (by kernel_rfl) (by kernel_rfl) (x_aidx (e := 4) (m := 8) (k := .i64) (i := (band .i64 a1 7)) (cs := (eA61.enc (#v[a0.N, a0.Z, true, a0.V, true, true, true, true] : Vector Bool 8))) (v := .bool (vx false (#v[a0.N, a0.Z, true, a0.V, true, true, true, true] : Vector Bool 8) (band .i64 a1 7 : Int).toNat)) (by kernel_rfl) (by kernel_rfl) (by kernel_rfl) (by kernel_rfl) (by kernel_rfl) hp21.1 hp21.2 (vget (cs := (eA61.enc (#v[a0.N, a0.Z, true, a0.V, true, true, true, true] : Vector Bool 8))) (pre := []) (post := []) (f := (fun j : Nat => .bool (vx false (#v[a0.N, a0.Z, true, a0.V, true, true, true, true] : Vector Bool 8) j))) (n := 8) (o := 0) (i := (band .i64 a1 7 : Int).toNat) (by kernel_rfl) rfl (by have := hp21; omega))) [1, 40] (L' := [(1, .int .i64 a1), (40, .bool (vx false (#v[a0.N, a0.Z, true, a0.V, true, true, true, true] : Vector Bool 8) (band .i64 a1 7 : Int).toNat))]) (by kernel_rfl) ?_
    clear hs; intro a hs
    refine go_pvs 24 28 [4] hs (L' := [(4, .bool ((vx false (#v[a0.N, a0.Z, true, a0.V, true, true, true, true] : Vector Bool 8) (band .i64 a1 7 : Int).toNat) != (decide (a1 > 7))))]) (by kernel_rfl) ?_ rfl
    clear hs; intro a hs
    refine go_end (by kernel_rfl) ?_
    replace hw := hw.only 1
    exact hJ3 ((vx false (#v[a0.N, a0.Z, true, a0.V, true, true, true, true] : Vector Bool 8) (band .i64 a1 7 : Int).toNat) != (decide (a1 > 7))) _ _ (hs.keep [4] (by kernel_rfl)) hw H
 refine go_seq_k fun K7 hK7 => ?_
 have hJ1 : ∀ (v9 : Bool) (a : Act) (w : World), Slots a 44 [(1, .int .i64 a1), (2, .pointer (some ad2)), (11, .bool v9)] → St [] w0 w [own 25 eSapi_Regs (some ad2) 1 [a0]] → alu_Taken.j1 a0 a1 v9 = some r → K7 a w := by
  intro v9 a w hs hw H
  unfold alu_Taken.j1 at H
  refine hK7 _ _ ?_
  refine go_cond hs v9 (by kernel_rfl) (fun hc => ?_) (fun hc => ?_)
  ·replace H := ite_t H hc
   have hb10 := hc
   rw [hb10] at hs
   refine go_seq_k fun K11 hK11 => ?_
   refine go_region ?_
   refine go_pvs 0 1 [4] hs (L' := [(4, .bool false)]) (by kernel_rfl) ?_ rfl
   clear hs; intro a hs
   refine go_end (by kernel_rfl) ?_
   refine hK11 _ _ ?_
   refine wp_ret ?_
   refine th_ret ?_
   obtain rfl := Option.some.inj H
   refine ret1 (t := 4) (v := .bool false) hs (by kernel_rfl) (by kernel_rfl) ?_
   exact ⟨rfl, hw.only 0⟩
  ·replace H := ite_f H (ff hc)
   have hb12 := hc
   rw [hb12] at hs
   refine wp_skip ?_
   replace hw := hw.only 1
   exact hJ2 _ _ (hs.keep [1, 2] (by kernel_rfl)) hw H
 refine go_region ?_
 refine go_pvs 0 3 [1, 2, 8] hs (L' := [(1, .int .i64 a1), (2, .pointer (some ad2)), (8, .bool (decide (a1 < 0)))]) (by kernel_rfl) ?_ rfl
 clear hs; intro a hs
 cases hb8 : (decide (a1 < 0))
 ·replace H := ite_f H (of_decide_eq_false hb8)
  rw [hb8] at hs
  refine go_pvs 3 6 [1, 2, 11] hs (L' := [(1, .int .i64 a1), (2, .pointer (some ad2)), (11, .bool (decide (a1 > 15)))]) (by kernel_rfl) ?_ rfl
  clear hs; intro a hs
  refine go_end (by kernel_rfl) ?_
  replace hw := hw.only 1
  exact hJ1 (decide (a1 > 15)) _ _ (hs.keep [1, 2, 11] (by kernel_rfl)) hw H
 ·replace H := ite_t H (of_decide_eq_true hb8)
  rw [hb8] at hs
  refine go_pvs 3 6 [1, 2, 11] hs (L' := [(1, .int .i64 a1), (2, .pointer (some ad2)), (11, .bool true)]) (by kernel_rfl) ?_ rfl
  clear hs; intro a hs
  refine go_end (by kernel_rfl) ?_
  replace hw := hw.only 1
  exact hJ1 true _ _ (hs.keep [1, 2, 11] (by kernel_rfl)) hw H

/-! rivet/alu.units: function 19 -/
noncomputable def alu_units : Option Unit := some ()
set_option maxRecDepth 100000 in
set_option maxHeartbeats 4000000 in
theorem alu_units.calls (r : Unit) (w0 : World) (H : alu_units = some r) :
    Calls Try.prog 19 #[] w0 fun e w' => ∃ g2 : Nat, ∃ g131 : Nat, ∃ g127 : Nat, ∃ g118 : Nat, ∃ g114 : Nat, ∃ g105 : Nat, ∃ g101 : Nat, ∃ g92 : Nat, ∃ g88 : Nat, ∃ g66 : Nat, ∃ g77 : Nat, ∃ g73 : Nat, ∃ ad62 : Addr, ∃ g40 : Nat, ∃ g51 : Nat, ∃ g47 : Nat, ∃ ad36 : Addr, ∃ g14 : Nat, ∃ g25 : Nat, ∃ g21 : Nat, ∃ ad10 : Addr, e = .returned (.agg #[.func (.func 35) #[] #[], .func (.func 58) #[] #[.pointer (some (⟨g21, 0, none⟩ : Addr))], .func (.func 58) #[] #[.pointer (some (⟨g47, 0, none⟩ : Addr))], .func (.func 58) #[] #[.pointer (some (⟨g73, 0, none⟩ : Addr))], .func (.func 58) #[] #[.pointer (some (⟨g88, 0, none⟩ : Addr))], .func (.func 58) #[] #[.pointer (some (⟨g101, 0, none⟩ : Addr))], .func (.func 58) #[] #[.pointer (some (⟨g114, 0, none⟩ : Addr))], .func (.func 58) #[] #[.pointer (some (⟨g127, 0, none⟩ : Addr))], .func (.func 40) #[] #[], .func (.func 42) #[] #[], .func (.func 44) #[] #[], .func (.func 46) #[] #[]]) ∧ St [] w0 w' [box g2 50 [.func (.func 35) #[] #[], .func (.func 58) #[] #[.pointer (some (⟨g21, 0, none⟩ : Addr))], .func (.func 58) #[] #[.pointer (some (⟨g47, 0, none⟩ : Addr))], .func (.func 58) #[] #[.pointer (some (⟨g73, 0, none⟩ : Addr))], .func (.func 58) #[] #[.pointer (some (⟨g88, 0, none⟩ : Addr))], .func (.func 58) #[] #[.pointer (some (⟨g101, 0, none⟩ : Addr))], .func (.func 58) #[] #[.pointer (some (⟨g114, 0, none⟩ : Addr))], .func (.func 58) #[] #[.pointer (some (⟨g127, 0, none⟩ : Addr))], .func (.func 40) #[] #[], .func (.func 42) #[] #[], .func (.func 44) #[] #[], .func (.func 46) #[] #[]], box g131 49 [.func (.func 58) #[] #[.pointer (some (⟨g127, 0, none⟩ : Addr))]], box g127 67 [.func (.func 39) #[] #[]], box g118 49 [.func (.func 58) #[] #[.pointer (some (⟨g114, 0, none⟩ : Addr))]], box g114 67 [.func (.func 38) #[] #[]], box g105 49 [.func (.func 58) #[] #[.pointer (some (⟨g101, 0, none⟩ : Addr))]], box g101 67 [.func (.func 37) #[] #[]], box g92 49 [.func (.func 58) #[] #[.pointer (some (⟨g88, 0, none⟩ : Addr))]], box g88 67 [.func (.func 36) #[] #[]], box g66 49 [.func (.func 58) #[] #[.pointer (some (⟨g73, 0, none⟩ : Addr))]], box g77 49 [.func (.func 58) #[] #[.pointer (some (⟨g73, 0, none⟩ : Addr))]], box g73 67 [.func (.func 33) #[] #[.pointer (some ad62)]], own 3 (eI .i64) (some ad62) 1 [3], box g40 49 [.func (.func 58) #[] #[.pointer (some (⟨g47, 0, none⟩ : Addr))]], box g51 49 [.func (.func 58) #[] #[.pointer (some (⟨g47, 0, none⟩ : Addr))]], box g47 67 [.func (.func 33) #[] #[.pointer (some ad36)]], own 3 (eI .i64) (some ad36) 1 [2], box g14 49 [.func (.func 58) #[] #[.pointer (some (⟨g21, 0, none⟩ : Addr))]], box g25 49 [.func (.func 58) #[] #[.pointer (some (⟨g21, 0, none⟩ : Addr))]], box g21 67 [.func (.func 33) #[] #[.pointer (some ad10)]], own 3 (eI .i64) (some ad10) 1 [1]] := by
 have hw : St [] w0 w0 [] := St.nil w0
 unfold alu_units at H
 refine go_fn Try.func19 rfl 18 Try.ntmps19 [] (by kernel_rfl) rfl ?_
 intro a hs
 refine go_seq_k fun K1 hK1 => ?_
 refine go_region ?_
 obtain ⟨g2, wd3, hx4, hw⟩ := x_allocc (P := Try.prog) (elem := 50) (ty := 0) (z := .agg #[.nilFunc, .nilFunc, .nilFunc, .nilFunc, .nilFunc, .nilFunc, .nilFunc, .nilFunc, .nilFunc, .nilFunc, .nilFunc, .nilFunc]) (cs := [.nilFunc, .nilFunc, .nilFunc, .nilFunc, .nilFunc, .nilFunc, .nilFunc, .nilFunc, .nilFunc, .nilFunc, .nilFunc, .nilFunc]) hs hw (by kernel_rfl) (by kernel_rfl)
 refine go_run hs (op := (Op.alloc 50)) (ty := 0) (dst := some 0) (g := none) (by kernel_rfl) (by kernel_rfl) (by kernel_rfl) hx4 [0] (L' := [(0, .pointer (some (⟨g2, 0, none⟩ : Addr)))]) (by kernel_rfl) ?_
 clear hs; intro a hs
 refine go_end (by kernel_rfl) ?_
 refine hK1 _ _ ?_
 refine go_seq_k fun K6 hK6 => ?_
 refine go_region ?_
 refine go_pvs 0 1 [0, 1] hs (L' := [(0, .pointer (some (⟨g2, 0, none⟩ : Addr))), (1, .func (.func 31) #[] #[])]) (by kernel_rfl) ?_ rfl
 clear hs; intro a hs
 refine go_end (by kernel_rfl) ?_
 refine hK6 _ _ ?_
 refine go_seq_k fun K7 hK7 => ?_
 refine go_region ?_
 refine go_pvs 0 2 [0, 1, 2, 3] hs (L' := [(0, .pointer (some (⟨g2, 0, none⟩ : Addr))), (1, .func (.func 31) #[] #[]), (2, .agg #[.func (.func 35) #[] #[]]), (3, .func (.func 31) #[] #[])]) (by kernel_rfl) ?_ rfl
 clear hs; intro a hs
 refine go_inline_k hs (op := (Op.call { callee := (Callee.value (Operand.tmp 3)), args := #[(Operand.const (Value.int IntKind.i64 1))], argTypes := #[3] })) (ty := 49) (dst := some 4) (g := none) (by kernel_rfl) (by kernel_rfl) (by kernel_rfl) (f := 31) (args := #[.int .i64 1]) (by kernel_rfl) (fun KR8 hKR8 => ?_)
 refine go_fn Try.func31 rfl 5 Try.ntmps31 [(0, .int .i64 1)] (by kernel_rfl) rfl ?_
 clear hs; intro a hs
 refine go_seq_k fun K9 hK9 => ?_
 refine go_region ?_
 obtain ⟨ad10, wd11, hx12, hw⟩ := x_box1 (P := Try.prog) (elem := 3) (v := (Operand.tmp 0)) (ty := 0) hs hw (eI .i64) 1 (by kernel_rfl)
 refine go_run hs (op := (Op.box 3 (Operand.tmp 0))) (ty := 0) (dst := some 1) (g := none) (by kernel_rfl) (by kernel_rfl) (by kernel_rfl) hx12 [1] (L' := [(1, .pointer (some ad10))]) (by kernel_rfl) ?_
 clear hs; intro a hs
 obtain ⟨g14, wd15, hx16, hw⟩ := x_allocc (P := Try.prog) (elem := 49) (ty := 0) (z := .agg #[.nilFunc]) (cs := [.nilFunc]) hs hw (by kernel_rfl) (by kernel_rfl)
 refine go_run hs (op := (Op.alloc 49)) (ty := 0) (dst := some 2) (g := none) (by kernel_rfl) (by kernel_rfl) (by kernel_rfl) hx16 [1, 2] (L' := [(1, .pointer (some ad10)), (2, .pointer (some (⟨g14, 0, none⟩ : Addr)))]) (by kernel_rfl) ?_
 clear hs; intro a hs
 refine go_end (by kernel_rfl) ?_
 refine hK9 _ _ ?_
 refine go_seq_k fun K18 hK18 => ?_
 refine go_region ?_
 refine go_pvs 0 1 [2, 3] hs (L' := [(2, .pointer (some (⟨g14, 0, none⟩ : Addr))), (3, .func (.func 33) #[] #[.pointer (some ad10)])]) (by kernel_rfl) ?_ rfl
 clear hs; intro a hs
 refine go_inline_k hs (op := (Op.call { callee := (Callee.value (Operand.func 32)), args := #[(Operand.tmp 3)], argTypes := #[67] })) (ty := 49) (dst := some 4) (g := none) (by kernel_rfl) (by kernel_rfl) (by kernel_rfl) (f := 32) (args := #[.func (.func 33) #[] #[.pointer (some ad10)]]) (by kernel_rfl) (fun KR19 hKR19 => ?_)
 refine go_fn Try.func32 rfl 5 Try.ntmps32 [(0, .func (.func 33) #[] #[.pointer (some ad10)])] (by kernel_rfl) rfl ?_
 clear hs; intro a hs
 refine go_seq_k fun K20 hK20 => ?_
 refine go_region ?_
 obtain ⟨g21, wd22, hx23, hw⟩ := x_boxc (P := Try.prog) (elem := 67) (v := (Operand.tmp 0)) (ty := 0) (cs := [.func (.func 33) #[] #[.pointer (some ad10)]]) hs hw (by kernel_rfl)
 refine go_run hs (op := (Op.box 67 (Operand.tmp 0))) (ty := 0) (dst := some 1) (g := none) (by kernel_rfl) (by kernel_rfl) (by kernel_rfl) hx23 [1] (L' := [(1, .pointer (some (⟨g21, 0, none⟩ : Addr)))]) (by kernel_rfl) ?_
 clear hs; intro a hs
 obtain ⟨g25, wd26, hx27, hw⟩ := x_allocc (P := Try.prog) (elem := 49) (ty := 0) (z := .agg #[.nilFunc]) (cs := [.nilFunc]) hs hw (by kernel_rfl) (by kernel_rfl)
 refine go_run hs (op := (Op.alloc 49)) (ty := 0) (dst := some 2) (g := none) (by kernel_rfl) (by kernel_rfl) (by kernel_rfl) hx27 [1, 2] (L' := [(1, .pointer (some (⟨g21, 0, none⟩ : Addr))), (2, .pointer (some (⟨g25, 0, none⟩ : Addr)))]) (by kernel_rfl) ?_
 clear hs; intro a hs
 refine go_end (by kernel_rfl) ?_
 refine hK20 _ _ ?_
 refine go_seq_k fun K29 hK29 => ?_
 refine go_region ?_
 refine go_pvs 0 2 [2, 4] hs (L' := [(2, .pointer (some (⟨g25, 0, none⟩ : Addr))), (4, .agg #[.func (.func 58) #[] #[.pointer (some (⟨g21, 0, none⟩ : Addr))]])]) (by kernel_rfl) ?_ rfl
 clear hs; intro a hs
 obtain ⟨wd30, hx31, hw⟩ := x_bput (P := Try.prog) (ty := 0) (t := 49) (y := (Operand.tmp 2)) (z := (Operand.tmp 4)) (o := 0) (p := (⟨g25, 0, none⟩ : Addr)) (v := .agg #[.func (.func 58) #[] #[.pointer (some (⟨g21, 0, none⟩ : Addr))]]) (vs := [.func (.func 58) #[] #[.pointer (some (⟨g21, 0, none⟩ : Addr))]]) (cs' := [.func (.func 58) #[] #[.pointer (some (⟨g21, 0, none⟩ : Addr))]]) hs hw (by kernel_rfl) rfl (by kernel_rfl) rfl (by kernel_rfl) (by kernel_rfl) (by simp [Value.oneCell']) rfl
 refine go_unit hs (op := (Op.store 49 (Operand.tmp 2) (Operand.tmp 4))) (ty := 0) (dst := none) (g := none) (by kernel_rfl) (by kernel_rfl) (by kernel_rfl) hx31 [2] (L' := [(2, .pointer (some (⟨g25, 0, none⟩ : Addr)))]) (by kernel_rfl) ?_
 clear hs; intro a hs
 refine go_end (by kernel_rfl) ?_
 refine hK29 _ _ ?_
 refine wp_ret ?_
 refine ret1g (L := [(2, .pointer (some (⟨g25, 0, none⟩ : Addr)))]) (r1 := .cell 2 49) (v1 := .agg #[.func (.func 58) #[] #[.pointer (some (⟨g21, 0, none⟩ : Addr))]]) hs (by kernel_rfl) ⟨_, (show lk 2 [(2, .pointer (some (⟨g25, 0, none⟩ : Addr)))] = some (.pointer (some (⟨g25, 0, none⟩ : Addr))) by kernel_rfl), lvb_row (hw.up 0) (by kernel_rfl) (by kernel_rfl) (by kernel_rfl)⟩ ?_
 refine ⟨_, rfl, ?_⟩
 refine hKR19 _ _ ?_
 intro a hs1
 have hs : Slots a _ [(2, .pointer (some (⟨g14, 0, none⟩ : Addr))), (4, .agg #[.func (.func 58) #[] #[.pointer (some (⟨g21, 0, none⟩ : Addr))]])] := hs1.keep [2, 4] (by kernel_rfl)
 clear hs1
 replace hw := hw.up 2
 obtain ⟨wd32, hx33, hw⟩ := x_bput (P := Try.prog) (ty := 0) (t := 49) (y := (Operand.tmp 2)) (z := (Operand.tmp 4)) (o := 0) (p := (⟨g14, 0, none⟩ : Addr)) (v := .agg #[.func (.func 58) #[] #[.pointer (some (⟨g21, 0, none⟩ : Addr))]]) (vs := [.func (.func 58) #[] #[.pointer (some (⟨g21, 0, none⟩ : Addr))]]) (cs' := [.func (.func 58) #[] #[.pointer (some (⟨g21, 0, none⟩ : Addr))]]) hs hw (by kernel_rfl) rfl (by kernel_rfl) rfl (by kernel_rfl) (by kernel_rfl) (by simp [Value.oneCell']) rfl
 refine go_unit hs (op := (Op.store 49 (Operand.tmp 2) (Operand.tmp 4))) (ty := 0) (dst := none) (g := none) (by kernel_rfl) (by kernel_rfl) (by kernel_rfl) hx33 [2] (L' := [(2, .pointer (some (⟨g14, 0, none⟩ : Addr)))]) (by kernel_rfl) ?_
 clear hs; intro a hs
 refine go_end (by kernel_rfl) ?_
 refine hK18 _ _ ?_
 refine wp_ret ?_
 refine ret1g (L := [(2, .pointer (some (⟨g14, 0, none⟩ : Addr)))]) (r1 := .cell 2 49) (v1 := .agg #[.func (.func 58) #[] #[.pointer (some (⟨g21, 0, none⟩ : Addr))]]) hs (by kernel_rfl) ⟨_, (show lk 2 [(2, .pointer (some (⟨g14, 0, none⟩ : Addr)))] = some (.pointer (some (⟨g14, 0, none⟩ : Addr))) by kernel_rfl), lvb_row (hw.up 0) (by kernel_rfl) (by kernel_rfl) (by kernel_rfl)⟩ ?_
 refine ⟨_, rfl, ?_⟩
 refine hKR8 _ _ ?_
 intro a hs1
 have hs : Slots a _ [(0, .pointer (some (⟨g2, 0, none⟩ : Addr))), (1, .func (.func 31) #[] #[]), (2, .agg #[.func (.func 35) #[] #[]]), (4, .agg #[.func (.func 58) #[] #[.pointer (some (⟨g21, 0, none⟩ : Addr))]])] := hs1.keep [0, 1, 2, 4] (by kernel_rfl)
 clear hs1
 refine go_pvs 3 4 [0, 1, 2, 4, 5] hs (L' := [(0, .pointer (some (⟨g2, 0, none⟩ : Addr))), (1, .func (.func 31) #[] #[]), (2, .agg #[.func (.func 35) #[] #[]]), (4, .agg #[.func (.func 58) #[] #[.pointer (some (⟨g21, 0, none⟩ : Addr))]]), (5, .func (.func 31) #[] #[])]) (by kernel_rfl) ?_ rfl
 clear hs; intro a hs
 refine go_inline_k hs (op := (Op.call { callee := (Callee.value (Operand.tmp 5)), args := #[(Operand.const (Value.int IntKind.i64 2))], argTypes := #[3] })) (ty := 49) (dst := some 6) (g := none) (by kernel_rfl) (by kernel_rfl) (by kernel_rfl) (f := 31) (args := #[.int .i64 2]) (by kernel_rfl) (fun KR34 hKR34 => ?_)
 refine go_fn Try.func31 rfl 5 Try.ntmps31 [(0, .int .i64 2)] (by kernel_rfl) rfl ?_
 clear hs; intro a hs
 refine go_seq_k fun K35 hK35 => ?_
 refine go_region ?_
 obtain ⟨ad36, wd37, hx38, hw⟩ := x_box1 (P := Try.prog) (elem := 3) (v := (Operand.tmp 0)) (ty := 0) hs hw (eI .i64) 2 (by kernel_rfl)
 refine go_run hs (op := (Op.box 3 (Operand.tmp 0))) (ty := 0) (dst := some 1) (g := none) (by kernel_rfl) (by kernel_rfl) (by kernel_rfl) hx38 [1] (L' := [(1, .pointer (some ad36))]) (by kernel_rfl) ?_
 clear hs; intro a hs
 obtain ⟨g40, wd41, hx42, hw⟩ := x_allocc (P := Try.prog) (elem := 49) (ty := 0) (z := .agg #[.nilFunc]) (cs := [.nilFunc]) hs hw (by kernel_rfl) (by kernel_rfl)
 refine go_run hs (op := (Op.alloc 49)) (ty := 0) (dst := some 2) (g := none) (by kernel_rfl) (by kernel_rfl) (by kernel_rfl) hx42 [1, 2] (L' := [(1, .pointer (some ad36)), (2, .pointer (some (⟨g40, 0, none⟩ : Addr)))]) (by kernel_rfl) ?_
 clear hs; intro a hs
 refine go_end (by kernel_rfl) ?_
 refine hK35 _ _ ?_
 refine go_seq_k fun K44 hK44 => ?_
 refine go_region ?_
 refine go_pvs 0 1 [2, 3] hs (L' := [(2, .pointer (some (⟨g40, 0, none⟩ : Addr))), (3, .func (.func 33) #[] #[.pointer (some ad36)])]) (by kernel_rfl) ?_ rfl
 clear hs; intro a hs
 refine go_inline_k hs (op := (Op.call { callee := (Callee.value (Operand.func 32)), args := #[(Operand.tmp 3)], argTypes := #[67] })) (ty := 49) (dst := some 4) (g := none) (by kernel_rfl) (by kernel_rfl) (by kernel_rfl) (f := 32) (args := #[.func (.func 33) #[] #[.pointer (some ad36)]]) (by kernel_rfl) (fun KR45 hKR45 => ?_)
 refine go_fn Try.func32 rfl 5 Try.ntmps32 [(0, .func (.func 33) #[] #[.pointer (some ad36)])] (by kernel_rfl) rfl ?_
 clear hs; intro a hs
 refine go_seq_k fun K46 hK46 => ?_
 refine go_region ?_
 obtain ⟨g47, wd48, hx49, hw⟩ := x_boxc (P := Try.prog) (elem := 67) (v := (Operand.tmp 0)) (ty := 0) (cs := [.func (.func 33) #[] #[.pointer (some ad36)]]) hs hw (by kernel_rfl)
 refine go_run hs (op := (Op.box 67 (Operand.tmp 0))) (ty := 0) (dst := some 1) (g := none) (by kernel_rfl) (by kernel_rfl) (by kernel_rfl) hx49 [1] (L' := [(1, .pointer (some (⟨g47, 0, none⟩ : Addr)))]) (by kernel_rfl) ?_
 clear hs; intro a hs
 obtain ⟨g51, wd52, hx53, hw⟩ := x_allocc (P := Try.prog) (elem := 49) (ty := 0) (z := .agg #[.nilFunc]) (cs := [.nilFunc]) hs hw (by kernel_rfl) (by kernel_rfl)
 refine go_run hs (op := (Op.alloc 49)) (ty := 0) (dst := some 2) (g := none) (by kernel_rfl) (by kernel_rfl) (by kernel_rfl) hx53 [1, 2] (L' := [(1, .pointer (some (⟨g47, 0, none⟩ : Addr))), (2, .pointer (some (⟨g51, 0, none⟩ : Addr)))]) (by kernel_rfl) ?_
 clear hs; intro a hs
 refine go_end (by kernel_rfl) ?_
 refine hK46 _ _ ?_
 refine go_seq_k fun K55 hK55 => ?_
 refine go_region ?_
 refine go_pvs 0 2 [2, 4] hs (L' := [(2, .pointer (some (⟨g51, 0, none⟩ : Addr))), (4, .agg #[.func (.func 58) #[] #[.pointer (some (⟨g47, 0, none⟩ : Addr))]])]) (by kernel_rfl) ?_ rfl
 clear hs; intro a hs
 obtain ⟨wd56, hx57, hw⟩ := x_bput (P := Try.prog) (ty := 0) (t := 49) (y := (Operand.tmp 2)) (z := (Operand.tmp 4)) (o := 0) (p := (⟨g51, 0, none⟩ : Addr)) (v := .agg #[.func (.func 58) #[] #[.pointer (some (⟨g47, 0, none⟩ : Addr))]]) (vs := [.func (.func 58) #[] #[.pointer (some (⟨g47, 0, none⟩ : Addr))]]) (cs' := [.func (.func 58) #[] #[.pointer (some (⟨g47, 0, none⟩ : Addr))]]) hs hw (by kernel_rfl) rfl (by kernel_rfl) rfl (by kernel_rfl) (by kernel_rfl) (by simp [Value.oneCell']) rfl
 refine go_unit hs (op := (Op.store 49 (Operand.tmp 2) (Operand.tmp 4))) (ty := 0) (dst := none) (g := none) (by kernel_rfl) (by kernel_rfl) (by kernel_rfl) hx57 [2] (L' := [(2, .pointer (some (⟨g51, 0, none⟩ : Addr)))]) (by kernel_rfl) ?_
 clear hs; intro a hs
 refine go_end (by kernel_rfl) ?_
 refine hK55 _ _ ?_
 refine wp_ret ?_
 refine ret1g (L := [(2, .pointer (some (⟨g51, 0, none⟩ : Addr)))]) (r1 := .cell 2 49) (v1 := .agg #[.func (.func 58) #[] #[.pointer (some (⟨g47, 0, none⟩ : Addr))]]) hs (by kernel_rfl) ⟨_, (show lk 2 [(2, .pointer (some (⟨g51, 0, none⟩ : Addr)))] = some (.pointer (some (⟨g51, 0, none⟩ : Addr))) by kernel_rfl), lvb_row (hw.up 0) (by kernel_rfl) (by kernel_rfl) (by kernel_rfl)⟩ ?_
 refine ⟨_, rfl, ?_⟩
 refine hKR45 _ _ ?_
 intro a hs1
 have hs : Slots a _ [(2, .pointer (some (⟨g40, 0, none⟩ : Addr))), (4, .agg #[.func (.func 58) #[] #[.pointer (some (⟨g47, 0, none⟩ : Addr))]])] := hs1.keep [2, 4] (by kernel_rfl)
 clear hs1
 replace hw := hw.up 2
 obtain ⟨wd58, hx59, hw⟩ := x_bput (P := Try.prog) (ty := 0) (t := 49) (y := (Operand.tmp 2)) (z := (Operand.tmp 4)) (o := 0) (p := (⟨g40, 0, none⟩ : Addr)) (v := .agg #[.func (.func 58) #[] #[.pointer (some (⟨g47, 0, none⟩ : Addr))]]) (vs := [.func (.func 58) #[] #[.pointer (some (⟨g47, 0, none⟩ : Addr))]]) (cs' := [.func (.func 58) #[] #[.pointer (some (⟨g47, 0, none⟩ : Addr))]]) hs hw (by kernel_rfl) rfl (by kernel_rfl) rfl (by kernel_rfl) (by kernel_rfl) (by simp [Value.oneCell']) rfl
 refine go_unit hs (op := (Op.store 49 (Operand.tmp 2) (Operand.tmp 4))) (ty := 0) (dst := none) (g := none) (by kernel_rfl) (by kernel_rfl) (by kernel_rfl) hx59 [2] (L' := [(2, .pointer (some (⟨g40, 0, none⟩ : Addr)))]) (by kernel_rfl) ?_
 clear hs; intro a hs
 refine go_end (by kernel_rfl) ?_
 refine hK44 _ _ ?_
 refine wp_ret ?_
 refine ret1g (L := [(2, .pointer (some (⟨g40, 0, none⟩ : Addr)))]) (r1 := .cell 2 49) (v1 := .agg #[.func (.func 58) #[] #[.pointer (some (⟨g47, 0, none⟩ : Addr))]]) hs (by kernel_rfl) ⟨_, (show lk 2 [(2, .pointer (some (⟨g40, 0, none⟩ : Addr)))] = some (.pointer (some (⟨g40, 0, none⟩ : Addr))) by kernel_rfl), lvb_row (hw.up 0) (by kernel_rfl) (by kernel_rfl) (by kernel_rfl)⟩ ?_
 refine ⟨_, rfl, ?_⟩
 refine hKR34 _ _ ?_
 intro a hs1
 have hs : Slots a _ [(0, .pointer (some (⟨g2, 0, none⟩ : Addr))), (1, .func (.func 31) #[] #[]), (2, .agg #[.func (.func 35) #[] #[]]), (4, .agg #[.func (.func 58) #[] #[.pointer (some (⟨g21, 0, none⟩ : Addr))]]), (6, .agg #[.func (.func 58) #[] #[.pointer (some (⟨g47, 0, none⟩ : Addr))]])] := hs1.keep [0, 1, 2, 4, 6] (by kernel_rfl)
 clear hs1
 refine go_pvs 5 6 [0, 2, 4, 6, 7] hs (L' := [(0, .pointer (some (⟨g2, 0, none⟩ : Addr))), (2, .agg #[.func (.func 35) #[] #[]]), (4, .agg #[.func (.func 58) #[] #[.pointer (some (⟨g21, 0, none⟩ : Addr))]]), (6, .agg #[.func (.func 58) #[] #[.pointer (some (⟨g47, 0, none⟩ : Addr))]]), (7, .func (.func 31) #[] #[])]) (by kernel_rfl) ?_ rfl
 clear hs; intro a hs
 refine go_inline_k hs (op := (Op.call { callee := (Callee.value (Operand.tmp 7)), args := #[(Operand.const (Value.int IntKind.i64 3))], argTypes := #[3] })) (ty := 49) (dst := some 8) (g := none) (by kernel_rfl) (by kernel_rfl) (by kernel_rfl) (f := 31) (args := #[.int .i64 3]) (by kernel_rfl) (fun KR60 hKR60 => ?_)
 refine go_fn Try.func31 rfl 5 Try.ntmps31 [(0, .int .i64 3)] (by kernel_rfl) rfl ?_
 clear hs; intro a hs
 refine go_seq_k fun K61 hK61 => ?_
 refine go_region ?_
 obtain ⟨ad62, wd63, hx64, hw⟩ := x_box1 (P := Try.prog) (elem := 3) (v := (Operand.tmp 0)) (ty := 0) hs hw (eI .i64) 3 (by kernel_rfl)
 refine go_run hs (op := (Op.box 3 (Operand.tmp 0))) (ty := 0) (dst := some 1) (g := none) (by kernel_rfl) (by kernel_rfl) (by kernel_rfl) hx64 [1] (L' := [(1, .pointer (some ad62))]) (by kernel_rfl) ?_
 clear hs; intro a hs
 obtain ⟨g66, wd67, hx68, hw⟩ := x_allocc (P := Try.prog) (elem := 49) (ty := 0) (z := .agg #[.nilFunc]) (cs := [.nilFunc]) hs hw (by kernel_rfl) (by kernel_rfl)
 refine go_run hs (op := (Op.alloc 49)) (ty := 0) (dst := some 2) (g := none) (by kernel_rfl) (by kernel_rfl) (by kernel_rfl) hx68 [1, 2] (L' := [(1, .pointer (some ad62)), (2, .pointer (some (⟨g66, 0, none⟩ : Addr)))]) (by kernel_rfl) ?_
 clear hs; intro a hs
 refine go_end (by kernel_rfl) ?_
 refine hK61 _ _ ?_
 refine go_seq_k fun K70 hK70 => ?_
 refine go_region ?_
 refine go_pvs 0 1 [2, 3] hs (L' := [(2, .pointer (some (⟨g66, 0, none⟩ : Addr))), (3, .func (.func 33) #[] #[.pointer (some ad62)])]) (by kernel_rfl) ?_ rfl
 clear hs; intro a hs
 refine go_inline_k hs (op := (Op.call { callee := (Callee.value (Operand.func 32)), args := #[(Operand.tmp 3)], argTypes := #[67] })) (ty := 49) (dst := some 4) (g := none) (by kernel_rfl) (by kernel_rfl) (by kernel_rfl) (f := 32) (args := #[.func (.func 33) #[] #[.pointer (some ad62)]]) (by kernel_rfl) (fun KR71 hKR71 => ?_)
 refine go_fn Try.func32 rfl 5 Try.ntmps32 [(0, .func (.func 33) #[] #[.pointer (some ad62)])] (by kernel_rfl) rfl ?_
 clear hs; intro a hs
 refine go_seq_k fun K72 hK72 => ?_
 refine go_region ?_
 obtain ⟨g73, wd74, hx75, hw⟩ := x_boxc (P := Try.prog) (elem := 67) (v := (Operand.tmp 0)) (ty := 0) (cs := [.func (.func 33) #[] #[.pointer (some ad62)]]) hs hw (by kernel_rfl)
 refine go_run hs (op := (Op.box 67 (Operand.tmp 0))) (ty := 0) (dst := some 1) (g := none) (by kernel_rfl) (by kernel_rfl) (by kernel_rfl) hx75 [1] (L' := [(1, .pointer (some (⟨g73, 0, none⟩ : Addr)))]) (by kernel_rfl) ?_
 clear hs; intro a hs
 obtain ⟨g77, wd78, hx79, hw⟩ := x_allocc (P := Try.prog) (elem := 49) (ty := 0) (z := .agg #[.nilFunc]) (cs := [.nilFunc]) hs hw (by kernel_rfl) (by kernel_rfl)
 refine go_run hs (op := (Op.alloc 49)) (ty := 0) (dst := some 2) (g := none) (by kernel_rfl) (by kernel_rfl) (by kernel_rfl) hx79 [1, 2] (L' := [(1, .pointer (some (⟨g73, 0, none⟩ : Addr))), (2, .pointer (some (⟨g77, 0, none⟩ : Addr)))]) (by kernel_rfl) ?_
 clear hs; intro a hs
 refine go_end (by kernel_rfl) ?_
 refine hK72 _ _ ?_
 refine go_seq_k fun K81 hK81 => ?_
 refine go_region ?_
 refine go_pvs 0 2 [2, 4] hs (L' := [(2, .pointer (some (⟨g77, 0, none⟩ : Addr))), (4, .agg #[.func (.func 58) #[] #[.pointer (some (⟨g73, 0, none⟩ : Addr))]])]) (by kernel_rfl) ?_ rfl
 clear hs; intro a hs
 obtain ⟨wd82, hx83, hw⟩ := x_bput (P := Try.prog) (ty := 0) (t := 49) (y := (Operand.tmp 2)) (z := (Operand.tmp 4)) (o := 0) (p := (⟨g77, 0, none⟩ : Addr)) (v := .agg #[.func (.func 58) #[] #[.pointer (some (⟨g73, 0, none⟩ : Addr))]]) (vs := [.func (.func 58) #[] #[.pointer (some (⟨g73, 0, none⟩ : Addr))]]) (cs' := [.func (.func 58) #[] #[.pointer (some (⟨g73, 0, none⟩ : Addr))]]) hs hw (by kernel_rfl) rfl (by kernel_rfl) rfl (by kernel_rfl) (by kernel_rfl) (by simp [Value.oneCell']) rfl
 refine go_unit hs (op := (Op.store 49 (Operand.tmp 2) (Operand.tmp 4))) (ty := 0) (dst := none) (g := none) (by kernel_rfl) (by kernel_rfl) (by kernel_rfl) hx83 [2] (L' := [(2, .pointer (some (⟨g77, 0, none⟩ : Addr)))]) (by kernel_rfl) ?_
 clear hs; intro a hs
 refine go_end (by kernel_rfl) ?_
 refine hK81 _ _ ?_
 refine wp_ret ?_
 refine ret1g (L := [(2, .pointer (some (⟨g77, 0, none⟩ : Addr)))]) (r1 := .cell 2 49) (v1 := .agg #[.func (.func 58) #[] #[.pointer (some (⟨g73, 0, none⟩ : Addr))]]) hs (by kernel_rfl) ⟨_, (show lk 2 [(2, .pointer (some (⟨g77, 0, none⟩ : Addr)))] = some (.pointer (some (⟨g77, 0, none⟩ : Addr))) by kernel_rfl), lvb_row (hw.up 0) (by kernel_rfl) (by kernel_rfl) (by kernel_rfl)⟩ ?_
 refine ⟨_, rfl, ?_⟩
 refine hKR71 _ _ ?_
 intro a hs1
 have hs : Slots a _ [(2, .pointer (some (⟨g66, 0, none⟩ : Addr))), (4, .agg #[.func (.func 58) #[] #[.pointer (some (⟨g73, 0, none⟩ : Addr))]])] := hs1.keep [2, 4] (by kernel_rfl)
 clear hs1
 replace hw := hw.up 2
 obtain ⟨wd84, hx85, hw⟩ := x_bput (P := Try.prog) (ty := 0) (t := 49) (y := (Operand.tmp 2)) (z := (Operand.tmp 4)) (o := 0) (p := (⟨g66, 0, none⟩ : Addr)) (v := .agg #[.func (.func 58) #[] #[.pointer (some (⟨g73, 0, none⟩ : Addr))]]) (vs := [.func (.func 58) #[] #[.pointer (some (⟨g73, 0, none⟩ : Addr))]]) (cs' := [.func (.func 58) #[] #[.pointer (some (⟨g73, 0, none⟩ : Addr))]]) hs hw (by kernel_rfl) rfl (by kernel_rfl) rfl (by kernel_rfl) (by kernel_rfl) (by simp [Value.oneCell']) rfl
 refine go_unit hs (op := (Op.store 49 (Operand.tmp 2) (Operand.tmp 4))) (ty := 0) (dst := none) (g := none) (by kernel_rfl) (by kernel_rfl) (by kernel_rfl) hx85 [2] (L' := [(2, .pointer (some (⟨g66, 0, none⟩ : Addr)))]) (by kernel_rfl) ?_
 clear hs; intro a hs
 refine go_end (by kernel_rfl) ?_
 refine hK70 _ _ ?_
 refine wp_ret ?_
 refine ret1g (L := [(2, .pointer (some (⟨g66, 0, none⟩ : Addr)))]) (r1 := .cell 2 49) (v1 := .agg #[.func (.func 58) #[] #[.pointer (some (⟨g73, 0, none⟩ : Addr))]]) hs (by kernel_rfl) ⟨_, (show lk 2 [(2, .pointer (some (⟨g66, 0, none⟩ : Addr)))] = some (.pointer (some (⟨g66, 0, none⟩ : Addr))) by kernel_rfl), lvb_row (hw.up 0) (by kernel_rfl) (by kernel_rfl) (by kernel_rfl)⟩ ?_
 refine ⟨_, rfl, ?_⟩
 refine hKR60 _ _ ?_
 intro a hs1
 have hs : Slots a _ [(0, .pointer (some (⟨g2, 0, none⟩ : Addr))), (2, .agg #[.func (.func 35) #[] #[]]), (4, .agg #[.func (.func 58) #[] #[.pointer (some (⟨g21, 0, none⟩ : Addr))]]), (6, .agg #[.func (.func 58) #[] #[.pointer (some (⟨g47, 0, none⟩ : Addr))]]), (8, .agg #[.func (.func 58) #[] #[.pointer (some (⟨g73, 0, none⟩ : Addr))]])] := hs1.keep [0, 2, 4, 6, 8] (by kernel_rfl)
 clear hs1
 refine go_inline_k hs (op := (Op.call { callee := (Callee.value (Operand.func 32)), args := #[(Operand.func 36)], argTypes := #[67] })) (ty := 49) (dst := some 9) (g := none) (by kernel_rfl) (by kernel_rfl) (by kernel_rfl) (f := 32) (args := #[.func (.func 36) #[] #[]]) (by kernel_rfl) (fun KR86 hKR86 => ?_)
 refine go_fn Try.func32 rfl 5 Try.ntmps32 [(0, .func (.func 36) #[] #[])] (by kernel_rfl) rfl ?_
 clear hs; intro a hs
 refine go_seq_k fun K87 hK87 => ?_
 refine go_region ?_
 obtain ⟨g88, wd89, hx90, hw⟩ := x_boxc (P := Try.prog) (elem := 67) (v := (Operand.tmp 0)) (ty := 0) (cs := [.func (.func 36) #[] #[]]) hs hw (by kernel_rfl)
 refine go_run hs (op := (Op.box 67 (Operand.tmp 0))) (ty := 0) (dst := some 1) (g := none) (by kernel_rfl) (by kernel_rfl) (by kernel_rfl) hx90 [1] (L' := [(1, .pointer (some (⟨g88, 0, none⟩ : Addr)))]) (by kernel_rfl) ?_
 clear hs; intro a hs
 obtain ⟨g92, wd93, hx94, hw⟩ := x_allocc (P := Try.prog) (elem := 49) (ty := 0) (z := .agg #[.nilFunc]) (cs := [.nilFunc]) hs hw (by kernel_rfl) (by kernel_rfl)
 refine go_run hs (op := (Op.alloc 49)) (ty := 0) (dst := some 2) (g := none) (by kernel_rfl) (by kernel_rfl) (by kernel_rfl) hx94 [1, 2] (L' := [(1, .pointer (some (⟨g88, 0, none⟩ : Addr))), (2, .pointer (some (⟨g92, 0, none⟩ : Addr)))]) (by kernel_rfl) ?_
 clear hs; intro a hs
 refine go_end (by kernel_rfl) ?_
 refine hK87 _ _ ?_
 refine go_seq_k fun K96 hK96 => ?_
 refine go_region ?_
 refine go_pvs 0 2 [2, 4] hs (L' := [(2, .pointer (some (⟨g92, 0, none⟩ : Addr))), (4, .agg #[.func (.func 58) #[] #[.pointer (some (⟨g88, 0, none⟩ : Addr))]])]) (by kernel_rfl) ?_ rfl
 clear hs; intro a hs
 obtain ⟨wd97, hx98, hw⟩ := x_bput (P := Try.prog) (ty := 0) (t := 49) (y := (Operand.tmp 2)) (z := (Operand.tmp 4)) (o := 0) (p := (⟨g92, 0, none⟩ : Addr)) (v := .agg #[.func (.func 58) #[] #[.pointer (some (⟨g88, 0, none⟩ : Addr))]]) (vs := [.func (.func 58) #[] #[.pointer (some (⟨g88, 0, none⟩ : Addr))]]) (cs' := [.func (.func 58) #[] #[.pointer (some (⟨g88, 0, none⟩ : Addr))]]) hs hw (by kernel_rfl) rfl (by kernel_rfl) rfl (by kernel_rfl) (by kernel_rfl) (by simp [Value.oneCell']) rfl
 refine go_unit hs (op := (Op.store 49 (Operand.tmp 2) (Operand.tmp 4))) (ty := 0) (dst := none) (g := none) (by kernel_rfl) (by kernel_rfl) (by kernel_rfl) hx98 [2] (L' := [(2, .pointer (some (⟨g92, 0, none⟩ : Addr)))]) (by kernel_rfl) ?_
 clear hs; intro a hs
 refine go_end (by kernel_rfl) ?_
 refine hK96 _ _ ?_
 refine wp_ret ?_
 refine ret1g (L := [(2, .pointer (some (⟨g92, 0, none⟩ : Addr)))]) (r1 := .cell 2 49) (v1 := .agg #[.func (.func 58) #[] #[.pointer (some (⟨g88, 0, none⟩ : Addr))]]) hs (by kernel_rfl) ⟨_, (show lk 2 [(2, .pointer (some (⟨g92, 0, none⟩ : Addr)))] = some (.pointer (some (⟨g92, 0, none⟩ : Addr))) by kernel_rfl), lvb_row (hw.up 0) (by kernel_rfl) (by kernel_rfl) (by kernel_rfl)⟩ ?_
 refine ⟨_, rfl, ?_⟩
 refine hKR86 _ _ ?_
 intro a hs1
 have hs : Slots a _ [(0, .pointer (some (⟨g2, 0, none⟩ : Addr))), (2, .agg #[.func (.func 35) #[] #[]]), (4, .agg #[.func (.func 58) #[] #[.pointer (some (⟨g21, 0, none⟩ : Addr))]]), (6, .agg #[.func (.func 58) #[] #[.pointer (some (⟨g47, 0, none⟩ : Addr))]]), (8, .agg #[.func (.func 58) #[] #[.pointer (some (⟨g73, 0, none⟩ : Addr))]]), (9, .agg #[.func (.func 58) #[] #[.pointer (some (⟨g88, 0, none⟩ : Addr))]])] := hs1.keep [0, 2, 4, 6, 8, 9] (by kernel_rfl)
 clear hs1
 refine go_inline_k hs (op := (Op.call { callee := (Callee.value (Operand.func 32)), args := #[(Operand.func 37)], argTypes := #[67] })) (ty := 49) (dst := some 10) (g := none) (by kernel_rfl) (by kernel_rfl) (by kernel_rfl) (f := 32) (args := #[.func (.func 37) #[] #[]]) (by kernel_rfl) (fun KR99 hKR99 => ?_)
 refine go_fn Try.func32 rfl 5 Try.ntmps32 [(0, .func (.func 37) #[] #[])] (by kernel_rfl) rfl ?_
 clear hs; intro a hs
 refine go_seq_k fun K100 hK100 => ?_
 refine go_region ?_
 obtain ⟨g101, wd102, hx103, hw⟩ := x_boxc (P := Try.prog) (elem := 67) (v := (Operand.tmp 0)) (ty := 0) (cs := [.func (.func 37) #[] #[]]) hs hw (by kernel_rfl)
 refine go_run hs (op := (Op.box 67 (Operand.tmp 0))) (ty := 0) (dst := some 1) (g := none) (by kernel_rfl) (by kernel_rfl) (by kernel_rfl) hx103 [1] (L' := [(1, .pointer (some (⟨g101, 0, none⟩ : Addr)))]) (by kernel_rfl) ?_
 clear hs; intro a hs
 obtain ⟨g105, wd106, hx107, hw⟩ := x_allocc (P := Try.prog) (elem := 49) (ty := 0) (z := .agg #[.nilFunc]) (cs := [.nilFunc]) hs hw (by kernel_rfl) (by kernel_rfl)
 refine go_run hs (op := (Op.alloc 49)) (ty := 0) (dst := some 2) (g := none) (by kernel_rfl) (by kernel_rfl) (by kernel_rfl) hx107 [1, 2] (L' := [(1, .pointer (some (⟨g101, 0, none⟩ : Addr))), (2, .pointer (some (⟨g105, 0, none⟩ : Addr)))]) (by kernel_rfl) ?_
 clear hs; intro a hs
 refine go_end (by kernel_rfl) ?_
 refine hK100 _ _ ?_
 refine go_seq_k fun K109 hK109 => ?_
 refine go_region ?_
 refine go_pvs 0 2 [2, 4] hs (L' := [(2, .pointer (some (⟨g105, 0, none⟩ : Addr))), (4, .agg #[.func (.func 58) #[] #[.pointer (some (⟨g101, 0, none⟩ : Addr))]])]) (by kernel_rfl) ?_ rfl
 clear hs; intro a hs
 obtain ⟨wd110, hx111, hw⟩ := x_bput (P := Try.prog) (ty := 0) (t := 49) (y := (Operand.tmp 2)) (z := (Operand.tmp 4)) (o := 0) (p := (⟨g105, 0, none⟩ : Addr)) (v := .agg #[.func (.func 58) #[] #[.pointer (some (⟨g101, 0, none⟩ : Addr))]]) (vs := [.func (.func 58) #[] #[.pointer (some (⟨g101, 0, none⟩ : Addr))]]) (cs' := [.func (.func 58) #[] #[.pointer (some (⟨g101, 0, none⟩ : Addr))]]) hs hw (by kernel_rfl) rfl (by kernel_rfl) rfl (by kernel_rfl) (by kernel_rfl) (by simp [Value.oneCell']) rfl
 refine go_unit hs (op := (Op.store 49 (Operand.tmp 2) (Operand.tmp 4))) (ty := 0) (dst := none) (g := none) (by kernel_rfl) (by kernel_rfl) (by kernel_rfl) hx111 [2] (L' := [(2, .pointer (some (⟨g105, 0, none⟩ : Addr)))]) (by kernel_rfl) ?_
 clear hs; intro a hs
 refine go_end (by kernel_rfl) ?_
 refine hK109 _ _ ?_
 refine wp_ret ?_
 refine ret1g (L := [(2, .pointer (some (⟨g105, 0, none⟩ : Addr)))]) (r1 := .cell 2 49) (v1 := .agg #[.func (.func 58) #[] #[.pointer (some (⟨g101, 0, none⟩ : Addr))]]) hs (by kernel_rfl) ⟨_, (show lk 2 [(2, .pointer (some (⟨g105, 0, none⟩ : Addr)))] = some (.pointer (some (⟨g105, 0, none⟩ : Addr))) by kernel_rfl), lvb_row (hw.up 0) (by kernel_rfl) (by kernel_rfl) (by kernel_rfl)⟩ ?_
 refine ⟨_, rfl, ?_⟩
 refine hKR99 _ _ ?_
 intro a hs1
 have hs : Slots a _ [(0, .pointer (some (⟨g2, 0, none⟩ : Addr))), (2, .agg #[.func (.func 35) #[] #[]]), (4, .agg #[.func (.func 58) #[] #[.pointer (some (⟨g21, 0, none⟩ : Addr))]]), (6, .agg #[.func (.func 58) #[] #[.pointer (some (⟨g47, 0, none⟩ : Addr))]]), (8, .agg #[.func (.func 58) #[] #[.pointer (some (⟨g73, 0, none⟩ : Addr))]]), (9, .agg #[.func (.func 58) #[] #[.pointer (some (⟨g88, 0, none⟩ : Addr))]]), (10, .agg #[.func (.func 58) #[] #[.pointer (some (⟨g101, 0, none⟩ : Addr))]])] := hs1.keep [0, 2, 4, 6, 8, 9, 10] (by kernel_rfl)
 clear hs1
 refine go_inline_k hs (op := (Op.call { callee := (Callee.value (Operand.func 32)), args := #[(Operand.func 38)], argTypes := #[67] })) (ty := 49) (dst := some 11) (g := none) (by kernel_rfl) (by kernel_rfl) (by kernel_rfl) (f := 32) (args := #[.func (.func 38) #[] #[]]) (by kernel_rfl) (fun KR112 hKR112 => ?_)
 refine go_fn Try.func32 rfl 5 Try.ntmps32 [(0, .func (.func 38) #[] #[])] (by kernel_rfl) rfl ?_
 clear hs; intro a hs
 refine go_seq_k fun K113 hK113 => ?_
 refine go_region ?_
 obtain ⟨g114, wd115, hx116, hw⟩ := x_boxc (P := Try.prog) (elem := 67) (v := (Operand.tmp 0)) (ty := 0) (cs := [.func (.func 38) #[] #[]]) hs hw (by kernel_rfl)
 refine go_run hs (op := (Op.box 67 (Operand.tmp 0))) (ty := 0) (dst := some 1) (g := none) (by kernel_rfl) (by kernel_rfl) (by kernel_rfl) hx116 [1] (L' := [(1, .pointer (some (⟨g114, 0, none⟩ : Addr)))]) (by kernel_rfl) ?_
 clear hs; intro a hs
 obtain ⟨g118, wd119, hx120, hw⟩ := x_allocc (P := Try.prog) (elem := 49) (ty := 0) (z := .agg #[.nilFunc]) (cs := [.nilFunc]) hs hw (by kernel_rfl) (by kernel_rfl)
 refine go_run hs (op := (Op.alloc 49)) (ty := 0) (dst := some 2) (g := none) (by kernel_rfl) (by kernel_rfl) (by kernel_rfl) hx120 [1, 2] (L' := [(1, .pointer (some (⟨g114, 0, none⟩ : Addr))), (2, .pointer (some (⟨g118, 0, none⟩ : Addr)))]) (by kernel_rfl) ?_
 clear hs; intro a hs
 refine go_end (by kernel_rfl) ?_
 refine hK113 _ _ ?_
 refine go_seq_k fun K122 hK122 => ?_
 refine go_region ?_
 refine go_pvs 0 2 [2, 4] hs (L' := [(2, .pointer (some (⟨g118, 0, none⟩ : Addr))), (4, .agg #[.func (.func 58) #[] #[.pointer (some (⟨g114, 0, none⟩ : Addr))]])]) (by kernel_rfl) ?_ rfl
 clear hs; intro a hs
 obtain ⟨wd123, hx124, hw⟩ := x_bput (P := Try.prog) (ty := 0) (t := 49) (y := (Operand.tmp 2)) (z := (Operand.tmp 4)) (o := 0) (p := (⟨g118, 0, none⟩ : Addr)) (v := .agg #[.func (.func 58) #[] #[.pointer (some (⟨g114, 0, none⟩ : Addr))]]) (vs := [.func (.func 58) #[] #[.pointer (some (⟨g114, 0, none⟩ : Addr))]]) (cs' := [.func (.func 58) #[] #[.pointer (some (⟨g114, 0, none⟩ : Addr))]]) hs hw (by kernel_rfl) rfl (by kernel_rfl) rfl (by kernel_rfl) (by kernel_rfl) (by simp [Value.oneCell']) rfl
 refine go_unit hs (op := (Op.store 49 (Operand.tmp 2) (Operand.tmp 4))) (ty := 0) (dst := none) (g := none) (by kernel_rfl) (by kernel_rfl) (by kernel_rfl) hx124 [2] (L' := [(2, .pointer (some (⟨g118, 0, none⟩ : Addr)))]) (by kernel_rfl) ?_
 clear hs; intro a hs
 refine go_end (by kernel_rfl) ?_
 refine hK122 _ _ ?_
 refine wp_ret ?_
 refine ret1g (L := [(2, .pointer (some (⟨g118, 0, none⟩ : Addr)))]) (r1 := .cell 2 49) (v1 := .agg #[.func (.func 58) #[] #[.pointer (some (⟨g114, 0, none⟩ : Addr))]]) hs (by kernel_rfl) ⟨_, (show lk 2 [(2, .pointer (some (⟨g118, 0, none⟩ : Addr)))] = some (.pointer (some (⟨g118, 0, none⟩ : Addr))) by kernel_rfl), lvb_row (hw.up 0) (by kernel_rfl) (by kernel_rfl) (by kernel_rfl)⟩ ?_
 refine ⟨_, rfl, ?_⟩
 refine hKR112 _ _ ?_
 intro a hs1
 have hs : Slots a _ [(0, .pointer (some (⟨g2, 0, none⟩ : Addr))), (2, .agg #[.func (.func 35) #[] #[]]), (4, .agg #[.func (.func 58) #[] #[.pointer (some (⟨g21, 0, none⟩ : Addr))]]), (6, .agg #[.func (.func 58) #[] #[.pointer (some (⟨g47, 0, none⟩ : Addr))]]), (8, .agg #[.func (.func 58) #[] #[.pointer (some (⟨g73, 0, none⟩ : Addr))]]), (9, .agg #[.func (.func 58) #[] #[.pointer (some (⟨g88, 0, none⟩ : Addr))]]), (10, .agg #[.func (.func 58) #[] #[.pointer (some (⟨g101, 0, none⟩ : Addr))]]), (11, .agg #[.func (.func 58) #[] #[.pointer (some (⟨g114, 0, none⟩ : Addr))]])] := hs1.keep [0, 2, 4, 6, 8, 9, 10, 11] (by kernel_rfl)
 clear hs1
 refine go_inline_k hs (op := (Op.call { callee := (Callee.value (Operand.func 32)), args := #[(Operand.func 39)], argTypes := #[67] })) (ty := 49) (dst := some 12) (g := none) (by kernel_rfl) (by kernel_rfl) (by kernel_rfl) (f := 32) (args := #[.func (.func 39) #[] #[]]) (by kernel_rfl) (fun KR125 hKR125 => ?_)
 refine go_fn Try.func32 rfl 5 Try.ntmps32 [(0, .func (.func 39) #[] #[])] (by kernel_rfl) rfl ?_
 clear hs; intro a hs
 refine go_seq_k fun K126 hK126 => ?_
 refine go_region ?_
 obtain ⟨g127, wd128, hx129, hw⟩ := x_boxc (P := Try.prog) (elem := 67) (v := (Operand.tmp 0)) (ty := 0) (cs := [.func (.func 39) #[] #[]]) hs hw (by kernel_rfl)
 refine go_run hs (op := (Op.box 67 (Operand.tmp 0))) (ty := 0) (dst := some 1) (g := none) (by kernel_rfl) (by kernel_rfl) (by kernel_rfl) hx129 [1] (L' := [(1, .pointer (some (⟨g127, 0, none⟩ : Addr)))]) (by kernel_rfl) ?_
 clear hs; intro a hs
 obtain ⟨g131, wd132, hx133, hw⟩ := x_allocc (P := Try.prog) (elem := 49) (ty := 0) (z := .agg #[.nilFunc]) (cs := [.nilFunc]) hs hw (by kernel_rfl) (by kernel_rfl)
 refine go_run hs (op := (Op.alloc 49)) (ty := 0) (dst := some 2) (g := none) (by kernel_rfl) (by kernel_rfl) (by kernel_rfl) hx133 [1, 2] (L' := [(1, .pointer (some (⟨g127, 0, none⟩ : Addr))), (2, .pointer (some (⟨g131, 0, none⟩ : Addr)))]) (by kernel_rfl) ?_
 clear hs; intro a hs
 refine go_end (by kernel_rfl) ?_
 refine hK126 _ _ ?_
 refine go_seq_k fun K135 hK135 => ?_
 refine go_region ?_
 refine go_pvs 0 2 [2, 4] hs (L' := [(2, .pointer (some (⟨g131, 0, none⟩ : Addr))), (4, .agg #[.func (.func 58) #[] #[.pointer (some (⟨g127, 0, none⟩ : Addr))]])]) (by kernel_rfl) ?_ rfl
 clear hs; intro a hs
 obtain ⟨wd136, hx137, hw⟩ := x_bput (P := Try.prog) (ty := 0) (t := 49) (y := (Operand.tmp 2)) (z := (Operand.tmp 4)) (o := 0) (p := (⟨g131, 0, none⟩ : Addr)) (v := .agg #[.func (.func 58) #[] #[.pointer (some (⟨g127, 0, none⟩ : Addr))]]) (vs := [.func (.func 58) #[] #[.pointer (some (⟨g127, 0, none⟩ : Addr))]]) (cs' := [.func (.func 58) #[] #[.pointer (some (⟨g127, 0, none⟩ : Addr))]]) hs hw (by kernel_rfl) rfl (by kernel_rfl) rfl (by kernel_rfl) (by kernel_rfl) (by simp [Value.oneCell']) rfl
 refine go_unit hs (op := (Op.store 49 (Operand.tmp 2) (Operand.tmp 4))) (ty := 0) (dst := none) (g := none) (by kernel_rfl) (by kernel_rfl) (by kernel_rfl) hx137 [2] (L' := [(2, .pointer (some (⟨g131, 0, none⟩ : Addr)))]) (by kernel_rfl) ?_
 clear hs; intro a hs
 refine go_end (by kernel_rfl) ?_
 refine hK135 _ _ ?_
 refine wp_ret ?_
 refine ret1g (L := [(2, .pointer (some (⟨g131, 0, none⟩ : Addr)))]) (r1 := .cell 2 49) (v1 := .agg #[.func (.func 58) #[] #[.pointer (some (⟨g127, 0, none⟩ : Addr))]]) hs (by kernel_rfl) ⟨_, (show lk 2 [(2, .pointer (some (⟨g131, 0, none⟩ : Addr)))] = some (.pointer (some (⟨g131, 0, none⟩ : Addr))) by kernel_rfl), lvb_row (hw.up 0) (by kernel_rfl) (by kernel_rfl) (by kernel_rfl)⟩ ?_
 refine ⟨_, rfl, ?_⟩
 refine hKR125 _ _ ?_
 intro a hs1
 have hs : Slots a _ [(0, .pointer (some (⟨g2, 0, none⟩ : Addr))), (2, .agg #[.func (.func 35) #[] #[]]), (4, .agg #[.func (.func 58) #[] #[.pointer (some (⟨g21, 0, none⟩ : Addr))]]), (6, .agg #[.func (.func 58) #[] #[.pointer (some (⟨g47, 0, none⟩ : Addr))]]), (8, .agg #[.func (.func 58) #[] #[.pointer (some (⟨g73, 0, none⟩ : Addr))]]), (9, .agg #[.func (.func 58) #[] #[.pointer (some (⟨g88, 0, none⟩ : Addr))]]), (10, .agg #[.func (.func 58) #[] #[.pointer (some (⟨g101, 0, none⟩ : Addr))]]), (11, .agg #[.func (.func 58) #[] #[.pointer (some (⟨g114, 0, none⟩ : Addr))]]), (12, .agg #[.func (.func 58) #[] #[.pointer (some (⟨g127, 0, none⟩ : Addr))]])] := hs1.keep [0, 2, 4, 6, 8, 9, 10, 11, 12] (by kernel_rfl)
 clear hs1
 refine go_pvs 11 16 [0, 17] hs (L' := [(0, .pointer (some (⟨g2, 0, none⟩ : Addr))), (17, .agg #[.func (.func 35) #[] #[], .func (.func 58) #[] #[.pointer (some (⟨g21, 0, none⟩ : Addr))], .func (.func 58) #[] #[.pointer (some (⟨g47, 0, none⟩ : Addr))], .func (.func 58) #[] #[.pointer (some (⟨g73, 0, none⟩ : Addr))], .func (.func 58) #[] #[.pointer (some (⟨g88, 0, none⟩ : Addr))], .func (.func 58) #[] #[.pointer (some (⟨g101, 0, none⟩ : Addr))], .func (.func 58) #[] #[.pointer (some (⟨g114, 0, none⟩ : Addr))], .func (.func 58) #[] #[.pointer (some (⟨g127, 0, none⟩ : Addr))], .func (.func 40) #[] #[], .func (.func 42) #[] #[], .func (.func 44) #[] #[], .func (.func 46) #[] #[]])]) (by kernel_rfl) ?_ rfl
 clear hs; intro a hs
 replace hw := hw.up 20
 obtain ⟨wd138, hx139, hw⟩ := x_bput (P := Try.prog) (ty := 0) (t := 50) (y := (Operand.tmp 0)) (z := (Operand.tmp 17)) (o := 0) (p := (⟨g2, 0, none⟩ : Addr)) (v := .agg #[.func (.func 35) #[] #[], .func (.func 58) #[] #[.pointer (some (⟨g21, 0, none⟩ : Addr))], .func (.func 58) #[] #[.pointer (some (⟨g47, 0, none⟩ : Addr))], .func (.func 58) #[] #[.pointer (some (⟨g73, 0, none⟩ : Addr))], .func (.func 58) #[] #[.pointer (some (⟨g88, 0, none⟩ : Addr))], .func (.func 58) #[] #[.pointer (some (⟨g101, 0, none⟩ : Addr))], .func (.func 58) #[] #[.pointer (some (⟨g114, 0, none⟩ : Addr))], .func (.func 58) #[] #[.pointer (some (⟨g127, 0, none⟩ : Addr))], .func (.func 40) #[] #[], .func (.func 42) #[] #[], .func (.func 44) #[] #[], .func (.func 46) #[] #[]]) (vs := [.func (.func 35) #[] #[], .func (.func 58) #[] #[.pointer (some (⟨g21, 0, none⟩ : Addr))], .func (.func 58) #[] #[.pointer (some (⟨g47, 0, none⟩ : Addr))], .func (.func 58) #[] #[.pointer (some (⟨g73, 0, none⟩ : Addr))], .func (.func 58) #[] #[.pointer (some (⟨g88, 0, none⟩ : Addr))], .func (.func 58) #[] #[.pointer (some (⟨g101, 0, none⟩ : Addr))], .func (.func 58) #[] #[.pointer (some (⟨g114, 0, none⟩ : Addr))], .func (.func 58) #[] #[.pointer (some (⟨g127, 0, none⟩ : Addr))], .func (.func 40) #[] #[], .func (.func 42) #[] #[], .func (.func 44) #[] #[], .func (.func 46) #[] #[]]) (cs' := [.func (.func 35) #[] #[], .func (.func 58) #[] #[.pointer (some (⟨g21, 0, none⟩ : Addr))], .func (.func 58) #[] #[.pointer (some (⟨g47, 0, none⟩ : Addr))], .func (.func 58) #[] #[.pointer (some (⟨g73, 0, none⟩ : Addr))], .func (.func 58) #[] #[.pointer (some (⟨g88, 0, none⟩ : Addr))], .func (.func 58) #[] #[.pointer (some (⟨g101, 0, none⟩ : Addr))], .func (.func 58) #[] #[.pointer (some (⟨g114, 0, none⟩ : Addr))], .func (.func 58) #[] #[.pointer (some (⟨g127, 0, none⟩ : Addr))], .func (.func 40) #[] #[], .func (.func 42) #[] #[], .func (.func 44) #[] #[], .func (.func 46) #[] #[]]) hs hw (by kernel_rfl) rfl (by kernel_rfl) rfl (by kernel_rfl) (by kernel_rfl) (by simp [Value.oneCell']) rfl
 refine go_unit hs (op := (Op.store 50 (Operand.tmp 0) (Operand.tmp 17))) (ty := 0) (dst := none) (g := none) (by kernel_rfl) (by kernel_rfl) (by kernel_rfl) hx139 [0] (L' := [(0, .pointer (some (⟨g2, 0, none⟩ : Addr)))]) (by kernel_rfl) ?_
 clear hs; intro a hs
 refine go_end (by kernel_rfl) ?_
 refine hK7 _ _ ?_
 refine wp_ret ?_
 obtain rfl := Option.some.inj H
 refine ret1g (L := [(0, .pointer (some (⟨g2, 0, none⟩ : Addr)))]) (r1 := .cell 0 50) (v1 := .agg #[.func (.func 35) #[] #[], .func (.func 58) #[] #[.pointer (some (⟨g21, 0, none⟩ : Addr))], .func (.func 58) #[] #[.pointer (some (⟨g47, 0, none⟩ : Addr))], .func (.func 58) #[] #[.pointer (some (⟨g73, 0, none⟩ : Addr))], .func (.func 58) #[] #[.pointer (some (⟨g88, 0, none⟩ : Addr))], .func (.func 58) #[] #[.pointer (some (⟨g101, 0, none⟩ : Addr))], .func (.func 58) #[] #[.pointer (some (⟨g114, 0, none⟩ : Addr))], .func (.func 58) #[] #[.pointer (some (⟨g127, 0, none⟩ : Addr))], .func (.func 40) #[] #[], .func (.func 42) #[] #[], .func (.func 44) #[] #[], .func (.func 46) #[] #[]]) hs (by kernel_rfl) ⟨_, (show lk 0 [(0, .pointer (some (⟨g2, 0, none⟩ : Addr)))] = some (.pointer (some (⟨g2, 0, none⟩ : Addr))) by kernel_rfl), lvb_row (hw.up 0) (by kernel_rfl) (by kernel_rfl) (by kernel_rfl)⟩ ?_
 exact ⟨g2, g131, g127, g118, g114, g105, g101, g92, g88, g66, g77, g73, ad62, g40, g51, g47, ad36, g14, g25, g21, ad10, rfl, hw⟩

end Go.Proofs.Ytckefpenekolhaa.T04
