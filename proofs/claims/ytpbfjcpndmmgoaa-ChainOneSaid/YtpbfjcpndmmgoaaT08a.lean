/- YtpbfjcpndmmgoaaT08: Go functions told as plain ones, each with a proof that its call comes to what is told, part 1. Condition of each: that the plain function comes to a value. -/
import Derived.Test.YtpbfjcpndmmgoaaE8
import Derived.Test.YtpbfjcpndmmgoaaProg
namespace Go.Proofs.Ytpbfjcpndmmgoaa.T08
open Go Go.RowKit Go.Proofs.Ytpbfjcpndmmgoaa.E
set_option linter.unusedVariables false
set_option linter.unusedSimpArgs false

/-! slices.Clone[[]uint32,uint32]: function 39 -/
noncomputable def slices_Clone_uint32_uint32 (l0 : List Int) : Option (List Int) := (if ([] : List Int).length + l0.length ≤ 35184372088832 then some (([] : List Int) ++ l0) else none)
set_option maxRecDepth 100000 in
set_option maxHeartbeats 4000000 in
theorem slices_Clone_uint32_uint32.calls (A0 : Option Addr) (c0 : Nat) (l0 : List Int) (r : (List Int)) (w0 : World) (hr0 : Rd w0 (eI .u32) A0 c0 l0) (H : slices_Clone_uint32_uint32 l0 = some r) :
    Calls Try.prog 39 #[.slice A0 l0.length c0] w0 fun e w' => ∃ A_0 c_0, e = .returned (.slice A_0 r.length c_0) ∧ St [] w0 w' [own 23 (eI .u32) A_0 c_0 r] := by
  have hw : St [] w0 w0 [] := St.nil w0
  unfold slices_Clone_uint32_uint32 at H
  refine go_fn Try.func39 rfl 8 Try.ntmps39 [(0, .slice A0 l0.length c0)] (by kernel_rfl) rfl ?_
  intro a hs
  refine go_seq_k fun K1 hK1 => ?_
  refine go_region ?_
  refine go_pvs 0 1 [0] hs (L' := [(0, .slice A0 l0.length c0)]) (by kernel_rfl) ?_ rfl
  clear hs; intro a hs
  refine go_end (by kernel_rfl) ?_
  refine hK1 _ _ ?_
  refine go_seq_k fun K2 hK2 => ?_
  refine go_seq_k fun K3 hK3 => ?_
  refine go_region ?_
  refine go_pvs 0 1 [0, 3] hs (L' := [(0, .slice A0 l0.length c0), (3, .slice A0 l0.length c0)]) (by kernel_rfl) ?_ rfl
  clear hs; intro a hs
  have hnil := (hr0.old hw)
  rcases A0 with _ | ad4
  · obtain rfl := Rd.none hnil
    clear hnil
    replace H : some ([] : List Int) = some r := by simpa using H
    refine go_pvs 1 2 [0, 4] hs (L' := [(0, .slice none ([] : List Int).length c0), (4, .bool true)]) (by kernel_rfl) ?_ rfl
    clear hs; intro a hs
    refine go_end (by kernel_rfl) ?_
    refine hK3 _ _ ?_
    refine go_cond hs true (by kernel_rfl) (fun hc => ?_) (fun hc => ?_)
    · skip
      refine go_seq_k fun K5 hK5 => ?_
      refine go_region ?_
      refine go_pvs 0 1 [2] hs (L' := [(2, .slice none 0 0)]) (by kernel_rfl) ?_ rfl
      clear hs; intro a hs
      refine go_end (by kernel_rfl) ?_
      refine hK5 _ _ ?_
      refine wp_ret ?_
      refine th_ret ?_
      obtain rfl := Option.some.inj H
      replace hw := St.own_nil hw 23 (eI .u32)
      refine ret1 (t := 2) (v := .slice none 0 0) hs (by kernel_rfl) (by kernel_rfl) ?_
      exact ⟨none, 0, rfl, hw.only 1⟩
    · cases hc
  · clear hnil
    refine go_pvs 1 2 [0, 4] hs (L' := [(0, .slice (some ad4) l0.length c0), (4, .bool false)]) (by kernel_rfl) ?_ rfl
    clear hs; intro a hs
    refine go_end (by kernel_rfl) ?_
    refine hK3 _ _ ?_
    refine go_cond hs false (by kernel_rfl) (fun hc => ?_) (fun hc => ?_)
    · cases hc
    · skip
      refine wp_skip ?_
      refine hK2 _ _ ?_
      refine go_seq_k fun K7 hK7 => ?_
      refine go_region ?_
      obtain ⟨A8, c9, wd10, hx11, hw⟩ := n_lit0 (P := Try.prog) (L := [(0, .slice (some ad4) l0.length c0), (4, .bool false)]) (t := 22) (ty := 22) (T := 23) hw (eI .u32) (by kernel_rfl) (by kernel_rfl)
      refine go_run hs (op := (Op.buildSlice 22 0 #[])) (ty := 22) (dst := some 5) (g := none) (by kernel_rfl) (by kernel_rfl) (by kernel_rfl) hx11 [0, 5] (L' := [(0, .slice (some ad4) l0.length c0), (5, .slice A8 ([] : List Int).length c9)]) (by kernel_rfl) ?_
      clear hs; intro a hs
      refine go_pvs 1 2 [5, 6] hs (L' := [(5, .slice A8 ([] : List Int).length c9), (6, .slice (some ad4) l0.length c0)]) (by kernel_rfl) ?_ rfl
      clear hs; intro a hs
      obtain ⟨hp13, H⟩ := ite_only H
      have hsrc18 : Src Try.prog (eI .u32).sz 22 (.slice (some ad4) l0.length c0) l0.length (l0.flatMap (eI .u32).enc) _ := (Src.of_rd (E := (eI .u32)) (e' := 23) (by kernel_rfl) (hr0.old hw))
      obtain ⟨A14, c15, wd16, hx17, hw⟩ := x_append (P := Try.prog) (L := [(5, .slice A8 ([] : List Int).length c9), (6, .slice (some ad4) l0.length c0)]) (t := 22) (tx := 22) (ty := 22) (x := (Operand.tmp 5)) (y := (Operand.tmp 6)) (z := .int .u32 0) (bytes := 4) (l2 := l0) hw (by kernel_rfl) (by kernel_rfl) (by kernel_rfl) (by kernel_rfl) (by kernel_rfl) hsrc18 (by omega) (by omega)
      refine go_run hs (op := (Op.call { callee := (Callee.builtin Builtin.append), args := #[(Operand.tmp 5), (Operand.tmp 6)], argTypes := #[22, 22] })) (ty := 22) (dst := some 7) (g := none) (by kernel_rfl) (by kernel_rfl) (by kernel_rfl) hx17 [7] (L' := [(7, .slice A14 (([] : List Int) ++ l0).length c15)]) (by kernel_rfl) ?_
      clear hs; intro a hs
      refine go_pvs 3 4 [2] hs (L' := [(2, .slice A14 (([] : List Int) ++ l0).length c15)]) (by kernel_rfl) ?_ rfl
      clear hs; intro a hs
      refine go_end (by kernel_rfl) ?_
      refine hK7 _ _ ?_
      refine wp_ret ?_
      obtain rfl := Option.some.inj H
      refine ret1 (t := 2) (v := .slice A14 (([] : List Int) ++ l0).length c15) hs (by kernel_rfl) (by kernel_rfl) ?_
      exact ⟨A14, c15, rfl, hw.only 1⟩

/-! slices.Reverse[[]int,int]: function 41 -/
noncomputable def slices_Reverse_int_int.j1 (l21 : List Int) : Option (List Int) := some l21
noncomputable def slices_Reverse_int_int.b3 (l4 : List Int) (v5 : Int) (v6 : Int) : Option ((List Int) × Int × Int ⊕ (List Int)) := (if v5 < v6 then (if 0 ≤ v6 ∧ v6 < (l4.length : Int) then (if 0 ≤ v5 ∧ v5 < (l4.length : Int) then (if 0 ≤ v5 ∧ v5 < (l4.length : Int) then (if 0 ≤ v6 ∧ v6 < ((l4.set (v5 : Int).toNat (ix (eI .i64).d l4 v6)).length : Int) then some (.inl ((l4.set (v5 : Int).toNat (ix (eI .i64).d l4 v6)).set (v6 : Int).toNat (ix (eI .i64).d l4 v5), w64 (v5 + 1), w64 (v6 - 1))) else none) else none) else none) else none) else some (.inr l4))
noncomputable def slices_Reverse_int_int (l0 : List Int) : Option (List Int) := ((loopO (fun (σ : (List Int) × Int × Int) => slices_Reverse_int_int.b3 σ.1 σ.2.1 σ.2.2) (l0, 0, w64 ((l0.length : Int) - 1))).bind fun e => slices_Reverse_int_int.j1 e)
set_option maxRecDepth 100000 in
set_option maxHeartbeats 4000000 in
theorem slices_Reverse_int_int.calls (ks0 : List Nat) (A0 : Option Addr) (c0 : Nat) (l0 : List Int) (r : (List Int)) (w0 : World) (hw : St ks0 w0 w0 [own 3 (eI .i64) A0 c0 l0]) (H : slices_Reverse_int_int l0 = some r) :
    Calls Try.prog 41 #[.slice A0 l0.length c0] w0 fun e w' => e = .returned (.tuple #[]) ∧ St ks0 w0 w' [own 3 (eI .i64) A0 c0 r] := by
  unfold slices_Reverse_int_int at H
  refine go_fn Try.func41 rfl 28 Try.ntmps41 [(0, .slice A0 l0.length c0)] (by kernel_rfl) rfl ?_
  intro a hs
  refine go_seq_k fun K1 hK1 => ?_
  refine go_region ?_
  refine go_pvs 0 5 [0, 2, 3] hs (L' := [(0, .slice A0 l0.length c0), (2, .int .i64 0), (3, .int .i64 (w64 ((l0.length : Int) - 1)))]) (by kernel_rfl) ?_ rfl
  clear hs; intro a hs
  refine go_end (by kernel_rfl) ?_
  refine hK1 _ _ ?_
  refine name_k fun K2 hK2 => ?_
  refine wp_block ?_
  obtain ⟨e3, hl3, HX3⟩ := bind_some H
  have hJ1 : ∀ (l21 : List Int) (a : Act) (w : World), Slots a 28 [] → St ks0 w0 w [own 3 (eI .i64) A0 c0 l21] → slices_Reverse_int_int.j1 l21 = some r → K2 a w := by
    intro l21 a w hs hw H
    unfold slices_Reverse_int_int.j1 at H
    refine hK2 _ _ ?_
    obtain rfl := Option.some.inj H
    refine end0 hs (by kernel_rfl) ?_
    exact ⟨rfl, hw.only 1⟩
  clear H
  refine go_loop (σ := (List Int) × Int × Int) (fun σ a w => Slots a 28 [(0, .slice A0 σ.1.length c0), (2, .int .i64 σ.2.1), (3, .int .i64 σ.2.2)] ∧ St ks0 w0 w [own 3 (eI .i64) A0 c0 σ.1]) hl3 (by exact ⟨hs.keep [0, 2, 3] (by kernel_rfl), hw⟩) ?_
  rintro ⟨l4, v5, v6⟩ a w ⟨hs, hw⟩ o H hr3
  replace hs : Slots a 28 [(0, .slice A0 l4.length c0), (2, .int .i64 v5), (3, .int .i64 v6)] := hs
  replace hw : St ks0 w0 w [own 3 (eI .i64) A0 c0 l4] := hw
  replace H : slices_Reverse_int_int.b3 l4 v5 v6 = some o := H
  unfold slices_Reverse_int_int.b3 at H
  refine go_seq_k fun K7 hK7 => ?_
  refine go_seq_k fun K8 hK8 => ?_
  refine go_region ?_
  refine go_pvs 0 3 [0, 2, 3, 9] hs (L' := [(0, .slice A0 l4.length c0), (2, .int .i64 v5), (3, .int .i64 v6), (9, .bool (decide (v5 < v6)))]) (by kernel_rfl) ?_ rfl
  clear hs; intro a hs
  refine go_end (by kernel_rfl) ?_
  refine hK8 _ _ ?_
  refine go_cond hs (decide (v5 < v6)) (by kernel_rfl) (fun hc => ?_) (fun hc => ?_)
  · replace H := ite_t H (of_decide_eq_true hc)
    have hb9 := hc
    rw [hb9] at hs
    refine wp_skip ?_
    refine hK7 _ _ ?_
    refine go_seq_k fun K10 hK10 => ?_
    refine wp_block ?_
    refine t_region [(0, true), (1, true), (2, true), (3, true), (4, true), (5, true), (6, true), (7, false), (8, true), (9, true), (10, true), (11, false), (12, true)] [13, 14, 15] (by kernel_rfl) (by kernel_rfl) (fun c a d v w h => by cases d <;> exact h) ?_
    refine t_pvs [0, 1, 2, 3, 4, 5] [(6, true), (7, false), (8, true), (9, true), (10, true), (11, false), (12, true)] [0, 2, 3, 14, 15, 16, 17, 18, 19] hs (L' := [(0, .slice A0 l4.length c0), (2, .int .i64 v5), (3, .int .i64 v6), (14, .slice A0 l4.length c0), (15, .int .i64 v5), (16, .slice A0 l4.length c0), (17, .int .i64 v6), (18, .slice A0 l4.length c0), (19, .int .i64 v6)]) (by kernel_rfl) ?_ (by kernel_rfl)
    clear hs; intro a hs
    obtain ⟨hp11, H⟩ := ite_only H
    obtain ⟨ad12, rfl⟩ := (Rd.of_own (hw.up 0)).some hp11.1 hp11.2
    refine t_run hs (op := (Op.indexAddr 35 (Operand.tmp 18) (Operand.tmp 19))) (ty := 0) (dst := some 20) (g := none) (by kernel_rfl) (by kernel_rfl) (by kernel_rfl) (fun wx => (x_idx (T := 3) (sz := 1) (a := ad12) (n := l4.length) (cap := c0) (k := .i64) (i := v6) (by kernel_rfl) (by kernel_rfl) (by kernel_rfl) (by kernel_rfl) hp11.1 hp11.2)) [0, 2, 3, 14, 15, 16, 17, 20] (L' := [(0, .slice (some ad12) l4.length c0), (2, .int .i64 v5), (3, .int .i64 v6), (14, .slice (some ad12) l4.length c0), (15, .int .i64 v5), (16, .slice (some ad12) l4.length c0), (17, .int .i64 v6), (20, .pointer (some (ad12.add (v6.toNat * 1))))]) (by kernel_rfl) ?_
    clear hs; intro a hs
    refine t_rd hs (op := (Op.load 3 (Operand.tmp 20))) (ty := 3) (dst := some 21) (g := none) (by kernel_rfl) (by kernel_rfl) (by kernel_rfl) (fun wx hbx => (x_ld (E := (eI .i64)) (off := 0) (p := ad12.add (v6.toNat * 1)) (v := .int .i64 (ix (eI .i64).d l4 v6)) ((Rd.of_own (hw.up 0)).below hbx) hp11.1 hp11.2 (by kernel_rfl) rfl (by kernel_rfl) (by kernel_rfl))) [0, 2, 3, 14, 15, 16, 17, 21] (L' := [(0, .slice (some ad12) l4.length c0), (2, .int .i64 v5), (3, .int .i64 v6), (14, .slice (some ad12) l4.length c0), (15, .int .i64 v5), (16, .slice (some ad12) l4.length c0), (17, .int .i64 v6), (21, .int .i64 (ix (eI .i64).d l4 v6))]) (by kernel_rfl) ?_
    clear hs; intro a hs
    refine t_pvs [8, 9] [(10, true), (11, false), (12, true)] [0, 2, 3, 14, 15, 16, 17, 21, 22, 23] hs (L' := [(0, .slice (some ad12) l4.length c0), (2, .int .i64 v5), (3, .int .i64 v6), (14, .slice (some ad12) l4.length c0), (15, .int .i64 v5), (16, .slice (some ad12) l4.length c0), (17, .int .i64 v6), (21, .int .i64 (ix (eI .i64).d l4 v6)), (22, .slice (some ad12) l4.length c0), (23, .int .i64 v5)]) (by kernel_rfl) ?_ (by kernel_rfl)
    clear hs; intro a hs
    obtain ⟨hp13, H⟩ := ite_only H
    refine t_run hs (op := (Op.indexAddr 35 (Operand.tmp 22) (Operand.tmp 23))) (ty := 0) (dst := some 24) (g := none) (by kernel_rfl) (by kernel_rfl) (by kernel_rfl) (fun wx => (x_idx (T := 3) (sz := 1) (a := ad12) (n := l4.length) (cap := c0) (k := .i64) (i := v5) (by kernel_rfl) (by kernel_rfl) (by kernel_rfl) (by kernel_rfl) hp13.1 hp13.2)) [0, 2, 3, 14, 15, 16, 17, 21, 24] (L' := [(0, .slice (some ad12) l4.length c0), (2, .int .i64 v5), (3, .int .i64 v6), (14, .slice (some ad12) l4.length c0), (15, .int .i64 v5), (16, .slice (some ad12) l4.length c0), (17, .int .i64 v6), (21, .int .i64 (ix (eI .i64).d l4 v6)), (24, .pointer (some (ad12.add (v5.toNat * 1))))]) (by kernel_rfl) ?_
    clear hs; intro a hs
    refine t_rd hs (op := (Op.load 3 (Operand.tmp 24))) (ty := 3) (dst := some 25) (g := none) (by kernel_rfl) (by kernel_rfl) (by kernel_rfl) (fun wx hbx => (x_ld (E := (eI .i64)) (off := 0) (p := ad12.add (v5.toNat * 1)) (v := .int .i64 (ix (eI .i64).d l4 v5)) ((Rd.of_own (hw.up 0)).below hbx) hp13.1 hp13.2 (by kernel_rfl) rfl (by kernel_rfl) (by kernel_rfl))) [0, 2, 3, 14, 15, 16, 17, 21, 25] (L' := [(0, .slice (some ad12) l4.length c0), (2, .int .i64 v5), (3, .int .i64 v6), (14, .slice (some ad12) l4.length c0), (15, .int .i64 v5), (16, .slice (some ad12) l4.length c0), (17, .int .i64 v6), (21, .int .i64 (ix (eI .i64).d l4 v6)), (25, .int .i64 (ix (eI .i64).d l4 v5))]) (by kernel_rfl) ?_
    clear hs; intro a hs
    obtain ⟨hp14, H⟩ := ite_only H
    refine t_run hs (op := (Op.indexAddr 35 (Operand.tmp 14) (Operand.tmp 15))) (ty := 0) (dst := some 26) (g := none) (by kernel_rfl) (by kernel_rfl) (by kernel_rfl) (fun wx => (x_idx (T := 3) (sz := 1) (a := ad12) (n := l4.length) (cap := c0) (k := .i64) (i := v5) (by kernel_rfl) (by kernel_rfl) (by kernel_rfl) (by kernel_rfl) hp14.1 hp14.2)) [0, 2, 3, 16, 17, 21, 25, 26] (L' := [(0, .slice (some ad12) l4.length c0), (2, .int .i64 v5), (3, .int .i64 v6), (16, .slice (some ad12) l4.length c0), (17, .int .i64 v6), (21, .int .i64 (ix (eI .i64).d l4 v6)), (25, .int .i64 (ix (eI .i64).d l4 v5)), (26, .pointer (some (ad12.add (v5.toNat * 1))))]) (by kernel_rfl) ?_
    clear hs; intro a hs
    refine t_end ?_
    intro wq hbq
    replace hw := hw.behind hbq
    obtain ⟨wd15, hx16, hw⟩ := x_put (P := Try.prog) (L := [(0, .slice (some ad12) l4.length c0), (2, .int .i64 v5), (3, .int .i64 v6), (16, .slice (some ad12) l4.length c0), (17, .int .i64 v6), (21, .int .i64 (ix (eI .i64).d l4 v6)), (25, .int .i64 (ix (eI .i64).d l4 v5)), (26, .pointer (some (ad12.add (v5.toNat * 1))))]) (ty := 0) (t := 3) (x := (Operand.tmp 26)) (y := (Operand.tmp 21)) (off := 0) (p := ad12.add (v5.toNat * 1)) (v := .int .i64 (ix (eI .i64).d l4 v6)) (vs := [.int .i64 (ix (eI .i64).d l4 v6)]) (i := v5) (e' := (ix (eI .i64).d l4 v6)) hw rfl hp14.1 hp14.2 (by kernel_rfl) rfl (by kernel_rfl) rfl (by kernel_rfl) (Nat.le_of_ble_eq_true rfl) (by simp [Value.oneCell']) (by kernel_rfl)
    refine p_unit hs (op := (Op.store 3 (Operand.tmp 26) (Operand.tmp 21))) (ty := 0) (dst := none) (g := none) (by kernel_rfl) (by kernel_rfl) (by kernel_rfl) hx16 [0, 2, 3, 16, 17, 25] (L' := [(0, .slice (some ad12) l4.length c0), (2, .int .i64 v5), (3, .int .i64 v6), (16, .slice (some ad12) l4.length c0), (17, .int .i64 v6), (25, .int .i64 (ix (eI .i64).d l4 v5))]) (by kernel_rfl) ?_
    clear hs; intro a hs
    replace hs : Slots a 28 [(0, .slice (some ad12) (l4.set (v5 : Int).toNat (ix (eI .i64).d l4 v6)).length c0), (2, .int .i64 v5), (3, .int .i64 v6), (16, .slice (some ad12) (l4.set (v5 : Int).toNat (ix (eI .i64).d l4 v6)).length c0), (17, .int .i64 v6), (25, .int .i64 (ix (eI .i64).d l4 v5))] := by rw [List.length_set]; exact hs
    obtain ⟨hp17, H⟩ := ite_only H
    refine p_run hs (op := (Op.indexAddr 35 (Operand.tmp 16) (Operand.tmp 17))) (ty := 0) (dst := some 27) (g := none) (by kernel_rfl) (by kernel_rfl) (by kernel_rfl) (x_idx (T := 3) (sz := 1) (a := ad12) (n := (l4.set (v5 : Int).toNat (ix (eI .i64).d l4 v6)).length) (cap := c0) (k := .i64) (i := v6) (by kernel_rfl) (by kernel_rfl) (by kernel_rfl) (by kernel_rfl) hp17.1 hp17.2) [0, 2, 3, 25, 27] (L' := [(0, .slice (some ad12) (l4.set (v5 : Int).toNat (ix (eI .i64).d l4 v6)).length c0), (2, .int .i64 v5), (3, .int .i64 v6), (25, .int .i64 (ix (eI .i64).d l4 v5)), (27, .pointer (some (ad12.add (v6.toNat * 1))))]) (by kernel_rfl) ?_
    clear hs; intro a hs
    obtain ⟨wd18, hx19, hw⟩ := x_put (P := Try.prog) (L := [(0, .slice (some ad12) (l4.set (v5 : Int).toNat (ix (eI .i64).d l4 v6)).length c0), (2, .int .i64 v5), (3, .int .i64 v6), (25, .int .i64 (ix (eI .i64).d l4 v5)), (27, .pointer (some (ad12.add (v6.toNat * 1))))]) (ty := 0) (t := 3) (x := (Operand.tmp 27)) (y := (Operand.tmp 25)) (off := 0) (p := ad12.add (v6.toNat * 1)) (v := .int .i64 (ix (eI .i64).d l4 v5)) (vs := [.int .i64 (ix (eI .i64).d l4 v5)]) (i := v6) (e' := (ix (eI .i64).d l4 v5)) hw rfl hp17.1 hp17.2 (by kernel_rfl) rfl (by kernel_rfl) rfl (by kernel_rfl) (Nat.le_of_ble_eq_true rfl) (by simp [Value.oneCell']) (by kernel_rfl)
    refine p_unit hs (op := (Op.store 3 (Operand.tmp 27) (Operand.tmp 25))) (ty := 0) (dst := none) (g := none) (by kernel_rfl) (by kernel_rfl) (by kernel_rfl) hx19 [0, 2, 3] (L' := [(0, .slice (some ad12) (l4.set (v5 : Int).toNat (ix (eI .i64).d l4 v6)).length c0), (2, .int .i64 v5), (3, .int .i64 v6)]) (by kernel_rfl) ?_
    clear hs; intro a hs
    replace hs : Slots a 28 [(0, .slice (some ad12) ((l4.set (v5 : Int).toNat (ix (eI .i64).d l4 v6)).set (v6 : Int).toNat (ix (eI .i64).d l4 v5)).length c0), (2, .int .i64 v5), (3, .int .i64 v6)] := by rw [List.length_set]; exact hs
    refine p_end ?_
    refine ib_norm ?_
    refine hK10 _ _ ?_
    refine go_region ?_
    refine go_pvs 0 6 [0, 2, 3] hs (L' := [(0, .slice (some ad12) ((l4.set (v5 : Int).toNat (ix (eI .i64).d l4 v6)).set (v6 : Int).toNat (ix (eI .i64).d l4 v5)).length c0), (2, .int .i64 (w64 (v5 + 1))), (3, .int .i64 (w64 (v6 - 1)))]) (by kernel_rfl) ?_ rfl
    clear hs; intro a hs
    refine go_end (by kernel_rfl) ?_
    replace hw := hw.only 1
    exact round_end ((l4.set (v5 : Int).toNat (ix (eI .i64).d l4 v6)).set (v6 : Int).toNat (ix (eI .i64).d l4 v5), w64 (v5 + 1), w64 (v6 - 1)) (Option.some.inj H).symm ⟨hs.keep [0, 2, 3] (by kernel_rfl), hw⟩
  · replace H := ite_f H (of_decide_eq_false hc)
    have hb20 := hc
    rw [hb20] at hs
    refine wp_exit ?_
    refine th_exit ?_
    refine th_exit ?_
    refine in_block ?_
    replace hw := hw.only 1
    rw [← hr3 _ (Option.some.inj H).symm] at HX3
    exact hJ1 l4 _ _ (hs.keep [] (by kernel_rfl)) hw HX3

theorem slices_Reverse_int_int.len {l r : List Int} (h : slices_Reverse_int_int l = some r) : r.length = l.length := by
  unfold slices_Reverse_int_int at h
  obtain ⟨e, h1, h2⟩ := bind_some h
  unfold slices_Reverse_int_int.j1 at h2
  cases h2
  refine loopO_ind (fun σ => σ.1.length = l.length) (fun x => x.length = l.length) ?_ ?_ h1 rfl
  · rintro ⟨l1, i, j⟩ s' hI hb
    simp only [slices_Reverse_int_int.b3] at hb
    repeat' split at hb
    all_goals first
      | cases hb; done
      | (cases hb; simp only [List.length_set]; exact hI)
  · rintro ⟨l1, i, j⟩ s' hI hb
    simp only [slices_Reverse_int_int.b3] at hb
    repeat' split at hb
    all_goals first
      | cases hb; done
      | (cases hb; exact hI)

/-! rivet/rivetref05.Same: function 18 -/
noncomputable def rivetref05_Same.j1 : Option Bool := some true
noncomputable def rivetref05_Same.b9 (l0 : List Int) (l1 : List Int) (v10 : Int) : Option (Int ⊕ (Ex Bool Unit)) := (if v10 < (l0.length : Int) then (if 0 ≤ v10 ∧ v10 < (l0.length : Int) then (if 0 ≤ v10 ∧ v10 < (l1.length : Int) then (if (ix (eI .u32).d l0 v10) = (ix (eI .u32).d l1 v10) then some (.inl (w64 (v10 + 1))) else some (.inr (.ret false))) else none) else none) else some (.inr (.done ())))
noncomputable def rivetref05_Same (l0 : List Int) (l1 : List Int) : Option Bool := (if (l0.length : Int) = (l1.length : Int) then ((loopO (fun (σ : Int) => rivetref05_Same.b9 l0 l1 σ) 0).bind fun e => match e with | .ret x => some x | .done e => rivetref05_Same.j1) else some false)
set_option maxRecDepth 100000 in
set_option maxHeartbeats 4000000 in
theorem rivetref05_Same.calls (A0 : Option Addr) (c0 : Nat) (l0 : List Int) (A1 : Option Addr) (c1 : Nat) (l1 : List Int) (r : Bool) (w0 : World) (hr0 : Rd w0 (eI .u32) A0 c0 l0) (hr1 : Rd w0 (eI .u32) A1 c1 l1) (H : rivetref05_Same l0 l1 = some r) :
    Calls Try.prog 18 #[.slice A0 l0.length c0, .slice A1 l1.length c1] w0 fun e w' => e = .returned (.bool r) ∧ St [] w0 w' [] := by
  have hw : St [] w0 w0 [] := St.nil w0
  unfold rivetref05_Same at H
  refine go_fn Try.func18 rfl 26 Try.ntmps18 [(0, .slice A0 l0.length c0), (1, .slice A1 l1.length c1)] (by kernel_rfl) rfl ?_
  intro a hs
  refine go_seq_k fun K1 hK1 => ?_
  refine go_region ?_
  refine go_pvs 0 1 [0, 1] hs (L' := [(0, .slice A0 l0.length c0), (1, .slice A1 l1.length c1)]) (by kernel_rfl) ?_ rfl
  clear hs; intro a hs
  refine go_end (by kernel_rfl) ?_
  refine hK1 _ _ ?_
  refine go_seq_k fun K2 hK2 => ?_
  refine go_seq_k fun K3 hK3 => ?_
  refine go_region ?_
  refine go_pvs 0 5 [0, 1, 10] hs (L' := [(0, .slice A0 l0.length c0), (1, .slice A1 l1.length c1), (10, .bool ((l0.length : Int) != (l1.length : Int)))]) (by kernel_rfl) ?_ rfl
  clear hs; intro a hs
  refine go_end (by kernel_rfl) ?_
  refine hK3 _ _ ?_
  refine go_cond hs ((l0.length : Int) != (l1.length : Int)) (by kernel_rfl) (fun hc => ?_) (fun hc => ?_)
  · replace H := ite_f H (bne_iff_ne.1 hc)
    have hb4 := hc
    rw [hb4] at hs
    refine go_seq_k fun K5 hK5 => ?_
    refine go_region ?_
    refine go_pvs 0 1 [4] hs (L' := [(4, .bool false)]) (by kernel_rfl) ?_ rfl
    clear hs; intro a hs
    refine go_end (by kernel_rfl) ?_
    refine hK5 _ _ ?_
    refine wp_ret ?_
    refine th_ret ?_
    obtain rfl := Option.some.inj H
    refine ret1 (t := 4) (v := .bool false) hs (by kernel_rfl) (by kernel_rfl) ?_
    exact ⟨rfl, hw.only 0⟩
  · replace H := ite_t H (bne_eq_false_iff_eq.1 hc)
    have hb6 := hc
    rw [hb6] at hs
    refine wp_skip ?_
    refine hK2 _ _ ?_
    refine go_seq_k fun K7 hK7 => ?_
    refine go_seq_k fun K8 hK8 => ?_
    refine go_region ?_
    refine go_pvs 0 1 [0, 1, 5] hs (L' := [(0, .slice A0 l0.length c0), (1, .slice A1 l1.length c1), (5, .int .i64 0)]) (by kernel_rfl) ?_ rfl
    clear hs; intro a hs
    refine go_end (by kernel_rfl) ?_
    refine hK8 _ _ ?_
    refine wp_block ?_
    obtain ⟨e9, hl9, HX9⟩ := bind_some H
    have hJ1 : ∀ (a : Act) (w : World), Slots a 26 [] → St [] w0 w [] → rivetref05_Same.j1 = some r → K7 a w := by
      intro a w hs hw H
      unfold rivetref05_Same.j1 at H
      refine hK7 _ _ ?_
      refine go_seq_k fun K24 hK24 => ?_
      refine go_region ?_
      refine go_pvs 0 1 [4] hs (L' := [(4, .bool true)]) (by kernel_rfl) ?_ rfl
      clear hs; intro a hs
      refine go_end (by kernel_rfl) ?_
      refine hK24 _ _ ?_
      refine wp_ret ?_
      obtain rfl := Option.some.inj H
      refine ret1 (t := 4) (v := .bool true) hs (by kernel_rfl) (by kernel_rfl) ?_
      exact ⟨rfl, hw.only 0⟩
    clear H
    refine go_loop (σ := Int) (fun σ a w => Slots a 26 [(0, .slice A0 l0.length c0), (1, .slice A1 l1.length c1), (5, .int .i64 σ)] ∧ St [] w0 w []) hl9 (by exact ⟨hs.keep [0, 1, 5] (by kernel_rfl), hw⟩) ?_
    rintro v10 a w ⟨hs, hw⟩ o H hr9
    replace hs : Slots a 26 [(0, .slice A0 l0.length c0), (1, .slice A1 l1.length c1), (5, .int .i64 v10)] := hs
    replace hw : St [] w0 w [] := hw
    replace H : rivetref05_Same.b9 l0 l1 v10 = some o := H
    unfold rivetref05_Same.b9 at H
    refine go_seq_k fun K11 hK11 => ?_
    refine go_seq_k fun K12 hK12 => ?_
    refine go_region ?_
    refine go_pvs 0 4 [0, 1, 5, 14] hs (L' := [(0, .slice A0 l0.length c0), (1, .slice A1 l1.length c1), (5, .int .i64 v10), (14, .bool (decide (v10 < (l0.length : Int))))]) (by kernel_rfl) ?_ rfl
    clear hs; intro a hs
    refine go_end (by kernel_rfl) ?_
    refine hK12 _ _ ?_
    refine go_cond hs (decide (v10 < (l0.length : Int))) (by kernel_rfl) (fun hc => ?_) (fun hc => ?_)
    · replace H := ite_t H (of_decide_eq_true hc)
      have hb13 := hc
      rw [hb13] at hs
      refine wp_skip ?_
      refine hK11 _ _ ?_
      refine go_seq_k fun K14 hK14 => ?_
      refine wp_block ?_
      refine go_seq_k fun K15 hK15 => ?_
      refine q_region (by kernel_rfl) (by kernel_rfl) ?_
      refine q_pvs 0 2 [0, 1, 5, 17, 18] hs (L' := [(0, .slice A0 l0.length c0), (1, .slice A1 l1.length c1), (5, .int .i64 v10), (17, .slice A0 l0.length c0), (18, .int .i64 v10)]) (by kernel_rfl) ?_ rfl
      clear hs; intro a hs
      obtain ⟨hp16, H⟩ := ite_only H
      obtain ⟨ad17, rfl⟩ := (hr0.old hw).some hp16.1 hp16.2
      refine q_run hs (op := (Op.indexAddr 22 (Operand.tmp 17) (Operand.tmp 18))) (ty := 0) (dst := some 19) (g := none) (by kernel_rfl) (by kernel_rfl) (by kernel_rfl) (fun wx hbx => (x_idx (T := 23) (sz := 1) (a := ad17) (n := l0.length) (cap := c0) (k := .i64) (i := v10) (by kernel_rfl) (by kernel_rfl) (by kernel_rfl) (by kernel_rfl) hp16.1 hp16.2)) [0, 1, 5, 19] (L' := [(0, .slice (some ad17) l0.length c0), (1, .slice A1 l1.length c1), (5, .int .i64 v10), (19, .pointer (some (ad17.add (v10.toNat * 1))))]) (by kernel_rfl) ?_
      clear hs; intro a hs
      refine q_run hs (op := (Op.load 23 (Operand.tmp 19))) (ty := 23) (dst := some 20) (g := none) (by kernel_rfl) (by kernel_rfl) (by kernel_rfl) (fun wx hbx => (x_ld (E := (eI .u32)) (off := 0) (p := ad17.add (v10.toNat * 1)) (v := .int .u32 (ix (eI .u32).d l0 v10)) ((hr0.old hw).below hbx) hp16.1 hp16.2 (by kernel_rfl) rfl (by kernel_rfl) (by kernel_rfl))) [0, 1, 5, 20] (L' := [(0, .slice (some ad17) l0.length c0), (1, .slice A1 l1.length c1), (5, .int .i64 v10), (20, .int .u32 (ix (eI .u32).d l0 v10))]) (by kernel_rfl) ?_
      clear hs; intro a hs
      refine q_pvs 4 6 [0, 1, 5, 20, 21, 22] hs (L' := [(0, .slice (some ad17) l0.length c0), (1, .slice A1 l1.length c1), (5, .int .i64 v10), (20, .int .u32 (ix (eI .u32).d l0 v10)), (21, .slice A1 l1.length c1), (22, .int .i64 v10)]) (by kernel_rfl) ?_ rfl
      clear hs; intro a hs
      obtain ⟨hp18, H⟩ := ite_only H
      obtain ⟨ad19, rfl⟩ := (hr1.old hw).some hp18.1 hp18.2
      refine q_run hs (op := (Op.indexAddr 22 (Operand.tmp 21) (Operand.tmp 22))) (ty := 0) (dst := some 23) (g := none) (by kernel_rfl) (by kernel_rfl) (by kernel_rfl) (fun wx hbx => (x_idx (T := 23) (sz := 1) (a := ad19) (n := l1.length) (cap := c1) (k := .i64) (i := v10) (by kernel_rfl) (by kernel_rfl) (by kernel_rfl) (by kernel_rfl) hp18.1 hp18.2)) [0, 1, 5, 20, 23] (L' := [(0, .slice (some ad17) l0.length c0), (1, .slice (some ad19) l1.length c1), (5, .int .i64 v10), (20, .int .u32 (ix (eI .u32).d l0 v10)), (23, .pointer (some (ad19.add (v10.toNat * 1))))]) (by kernel_rfl) ?_
      clear hs; intro a hs
      refine q_run hs (op := (Op.load 23 (Operand.tmp 23))) (ty := 23) (dst := some 24) (g := none) (by kernel_rfl) (by kernel_rfl) (by kernel_rfl) (fun wx hbx => (x_ld (E := (eI .u32)) (off := 0) (p := ad19.add (v10.toNat * 1)) (v := .int .u32 (ix (eI .u32).d l1 v10)) ((hr1.old hw).below hbx) hp18.1 hp18.2 (by kernel_rfl) rfl (by kernel_rfl) (by kernel_rfl))) [0, 1, 5, 20, 24] (L' := [(0, .slice (some ad17) l0.length c0), (1, .slice (some ad19) l1.length c1), (5, .int .i64 v10), (20, .int .u32 (ix (eI .u32).d l0 v10)), (24, .int .u32 (ix (eI .u32).d l1 v10))]) (by kernel_rfl) ?_
      clear hs; intro a hs
      refine q_pvs 8 9 [0, 1, 5, 25] hs (L' := [(0, .slice (some ad17) l0.length c0), (1, .slice (some ad19) l1.length c1), (5, .int .i64 v10), (25, .bool ((ix (eI .u32).d l0 v10) != (ix (eI .u32).d l1 v10)))]) (by kernel_rfl) ?_ rfl
      clear hs; intro a hs
      refine q_end (by kernel_rfl) ?_
      intro wq hbq
      replace hw := hw.behind hbq
      refine hK15 _ _ ?_
      refine go_cond hs ((ix (eI .u32).d l0 v10) != (ix (eI .u32).d l1 v10)) (by kernel_rfl) (fun hc => ?_) (fun hc => ?_)
      · replace H := ite_f H (bne_iff_ne.1 hc)
        have hb20 := hc
        rw [hb20] at hs
        refine go_seq_k fun K21 hK21 => ?_
        refine go_region ?_
        refine go_pvs 0 1 [4] hs (L' := [(4, .bool false)]) (by kernel_rfl) ?_ rfl
        clear hs; intro a hs
        refine go_end (by kernel_rfl) ?_
        refine hK21 _ _ ?_
        refine wp_ret ?_
        refine ib_ret ?_
        refine th_ret ?_
        refine th_ret ?_
        refine ib_ret ?_
        refine th_ret ?_
        rw [← hr9 _ (Option.some.inj H).symm] at HX9
        replace H : some false = some r := HX9
        obtain rfl := Option.some.inj H
        refine ret1 (t := 4) (v := .bool false) hs (by kernel_rfl) (by kernel_rfl) ?_
        exact ⟨rfl, hw.only 0⟩
      · replace H := ite_t H (bne_eq_false_iff_eq.1 hc)
        have hb22 := hc
        rw [hb22] at hs
        refine wp_skip ?_
        refine ib_norm ?_
        refine hK14 _ _ ?_
        refine go_region ?_
        refine go_pvs 0 3 [0, 1, 5] hs (L' := [(0, .slice (some ad17) l0.length c0), (1, .slice (some ad19) l1.length c1), (5, .int .i64 (w64 (v10 + 1)))]) (by kernel_rfl) ?_ rfl
        clear hs; intro a hs
        refine go_end (by kernel_rfl) ?_
        replace hw := hw.only 0
        exact round_end (w64 (v10 + 1)) (Option.some.inj H).symm ⟨hs.keep [0, 1, 5] (by kernel_rfl), hw⟩
    · replace H := ite_f H (of_decide_eq_false hc)
      have hb23 := hc
      rw [hb23] at hs
      refine wp_exit ?_
      refine th_exit ?_
      refine th_exit ?_
      refine in_block ?_
      replace hw := hw.only 0
      rw [← hr9 _ (Option.some.inj H).symm] at HX9
      exact hJ1 _ _ (hs.keep [] (by kernel_rfl)) hw HX9

/-! rivet/rivetref08.Same: function 26 -/
noncomputable def rivetref08_Same.j1 : Option Bool := some true
noncomputable def rivetref08_Same.b9 (l0 : List Int) (l1 : List Int) (v10 : Int) : Option (Int ⊕ (Ex Bool Unit)) := (if v10 < (l0.length : Int) then (if 0 ≤ v10 ∧ v10 < (l0.length : Int) then (if 0 ≤ v10 ∧ v10 < (l1.length : Int) then (if (ix (eI .i64).d l0 v10) = (ix (eI .i64).d l1 v10) then some (.inl (w64 (v10 + 1))) else some (.inr (.ret false))) else none) else none) else some (.inr (.done ())))
noncomputable def rivetref08_Same (l0 : List Int) (l1 : List Int) : Option Bool := (if (l0.length : Int) = (l1.length : Int) then ((loopO (fun (σ : Int) => rivetref08_Same.b9 l0 l1 σ) 0).bind fun e => match e with | .ret x => some x | .done e => rivetref08_Same.j1) else some false)
set_option maxRecDepth 100000 in
set_option maxHeartbeats 4000000 in
theorem rivetref08_Same.calls (A0 : Option Addr) (c0 : Nat) (l0 : List Int) (A1 : Option Addr) (c1 : Nat) (l1 : List Int) (r : Bool) (w0 : World) (hr0 : Rd w0 (eI .i64) A0 c0 l0) (hr1 : Rd w0 (eI .i64) A1 c1 l1) (H : rivetref08_Same l0 l1 = some r) :
    Calls Try.prog 26 #[.slice A0 l0.length c0, .slice A1 l1.length c1] w0 fun e w' => e = .returned (.bool r) ∧ St [] w0 w' [] := by
  have hw : St [] w0 w0 [] := St.nil w0
  unfold rivetref08_Same at H
  refine go_fn Try.func26 rfl 26 Try.ntmps26 [(0, .slice A0 l0.length c0), (1, .slice A1 l1.length c1)] (by kernel_rfl) rfl ?_
  intro a hs
  refine go_seq_k fun K1 hK1 => ?_
  refine go_region ?_
  refine go_pvs 0 1 [0, 1] hs (L' := [(0, .slice A0 l0.length c0), (1, .slice A1 l1.length c1)]) (by kernel_rfl) ?_ rfl
  clear hs; intro a hs
  refine go_end (by kernel_rfl) ?_
  refine hK1 _ _ ?_
  refine go_seq_k fun K2 hK2 => ?_
  refine go_seq_k fun K3 hK3 => ?_
  refine go_region ?_
  refine go_pvs 0 5 [0, 1, 10] hs (L' := [(0, .slice A0 l0.length c0), (1, .slice A1 l1.length c1), (10, .bool ((l0.length : Int) != (l1.length : Int)))]) (by kernel_rfl) ?_ rfl
  clear hs; intro a hs
  refine go_end (by kernel_rfl) ?_
  refine hK3 _ _ ?_
  refine go_cond hs ((l0.length : Int) != (l1.length : Int)) (by kernel_rfl) (fun hc => ?_) (fun hc => ?_)
  · replace H := ite_f H (bne_iff_ne.1 hc)
    have hb4 := hc
    rw [hb4] at hs
    refine go_seq_k fun K5 hK5 => ?_
    refine go_region ?_
    refine go_pvs 0 1 [4] hs (L' := [(4, .bool false)]) (by kernel_rfl) ?_ rfl
    clear hs; intro a hs
    refine go_end (by kernel_rfl) ?_
    refine hK5 _ _ ?_
    refine wp_ret ?_
    refine th_ret ?_
    obtain rfl := Option.some.inj H
    refine ret1 (t := 4) (v := .bool false) hs (by kernel_rfl) (by kernel_rfl) ?_
    exact ⟨rfl, hw.only 0⟩
  · replace H := ite_t H (bne_eq_false_iff_eq.1 hc)
    have hb6 := hc
    rw [hb6] at hs
    refine wp_skip ?_
    refine hK2 _ _ ?_
    refine go_seq_k fun K7 hK7 => ?_
    refine go_seq_k fun K8 hK8 => ?_
    refine go_region ?_
    refine go_pvs 0 1 [0, 1, 5] hs (L' := [(0, .slice A0 l0.length c0), (1, .slice A1 l1.length c1), (5, .int .i64 0)]) (by kernel_rfl) ?_ rfl
    clear hs; intro a hs
    refine go_end (by kernel_rfl) ?_
    refine hK8 _ _ ?_
    refine wp_block ?_
    obtain ⟨e9, hl9, HX9⟩ := bind_some H
    have hJ1 : ∀ (a : Act) (w : World), Slots a 26 [] → St [] w0 w [] → rivetref08_Same.j1 = some r → K7 a w := by
      intro a w hs hw H
      unfold rivetref08_Same.j1 at H
      refine hK7 _ _ ?_
      refine go_seq_k fun K24 hK24 => ?_
      refine go_region ?_
      refine go_pvs 0 1 [4] hs (L' := [(4, .bool true)]) (by kernel_rfl) ?_ rfl
      clear hs; intro a hs
      refine go_end (by kernel_rfl) ?_
      refine hK24 _ _ ?_
      refine wp_ret ?_
      obtain rfl := Option.some.inj H
      refine ret1 (t := 4) (v := .bool true) hs (by kernel_rfl) (by kernel_rfl) ?_
      exact ⟨rfl, hw.only 0⟩
    clear H
    refine go_loop (σ := Int) (fun σ a w => Slots a 26 [(0, .slice A0 l0.length c0), (1, .slice A1 l1.length c1), (5, .int .i64 σ)] ∧ St [] w0 w []) hl9 (by exact ⟨hs.keep [0, 1, 5] (by kernel_rfl), hw⟩) ?_
    rintro v10 a w ⟨hs, hw⟩ o H hr9
    replace hs : Slots a 26 [(0, .slice A0 l0.length c0), (1, .slice A1 l1.length c1), (5, .int .i64 v10)] := hs
    replace hw : St [] w0 w [] := hw
    replace H : rivetref08_Same.b9 l0 l1 v10 = some o := H
    unfold rivetref08_Same.b9 at H
    refine go_seq_k fun K11 hK11 => ?_
    refine go_seq_k fun K12 hK12 => ?_
    refine go_region ?_
    refine go_pvs 0 4 [0, 1, 5, 14] hs (L' := [(0, .slice A0 l0.length c0), (1, .slice A1 l1.length c1), (5, .int .i64 v10), (14, .bool (decide (v10 < (l0.length : Int))))]) (by kernel_rfl) ?_ rfl
    clear hs; intro a hs
    refine go_end (by kernel_rfl) ?_
    refine hK12 _ _ ?_
    refine go_cond hs (decide (v10 < (l0.length : Int))) (by kernel_rfl) (fun hc => ?_) (fun hc => ?_)
    · replace H := ite_t H (of_decide_eq_true hc)
      have hb13 := hc
      rw [hb13] at hs
      refine wp_skip ?_
      refine hK11 _ _ ?_
      refine go_seq_k fun K14 hK14 => ?_
      refine wp_block ?_
      refine go_seq_k fun K15 hK15 => ?_
      refine q_region (by kernel_rfl) (by kernel_rfl) ?_
      refine q_pvs 0 2 [0, 1, 5, 17, 18] hs (L' := [(0, .slice A0 l0.length c0), (1, .slice A1 l1.length c1), (5, .int .i64 v10), (17, .slice A0 l0.length c0), (18, .int .i64 v10)]) (by kernel_rfl) ?_ rfl
      clear hs; intro a hs
      obtain ⟨hp16, H⟩ := ite_only H
      obtain ⟨ad17, rfl⟩ := (hr0.old hw).some hp16.1 hp16.2
      refine q_run hs (op := (Op.indexAddr 35 (Operand.tmp 17) (Operand.tmp 18))) (ty := 0) (dst := some 19) (g := none) (by kernel_rfl) (by kernel_rfl) (by kernel_rfl) (fun wx hbx => (x_idx (T := 3) (sz := 1) (a := ad17) (n := l0.length) (cap := c0) (k := .i64) (i := v10) (by kernel_rfl) (by kernel_rfl) (by kernel_rfl) (by kernel_rfl) hp16.1 hp16.2)) [0, 1, 5, 19] (L' := [(0, .slice (some ad17) l0.length c0), (1, .slice A1 l1.length c1), (5, .int .i64 v10), (19, .pointer (some (ad17.add (v10.toNat * 1))))]) (by kernel_rfl) ?_
      clear hs; intro a hs
      refine q_run hs (op := (Op.load 3 (Operand.tmp 19))) (ty := 3) (dst := some 20) (g := none) (by kernel_rfl) (by kernel_rfl) (by kernel_rfl) (fun wx hbx => (x_ld (E := (eI .i64)) (off := 0) (p := ad17.add (v10.toNat * 1)) (v := .int .i64 (ix (eI .i64).d l0 v10)) ((hr0.old hw).below hbx) hp16.1 hp16.2 (by kernel_rfl) rfl (by kernel_rfl) (by kernel_rfl))) [0, 1, 5, 20] (L' := [(0, .slice (some ad17) l0.length c0), (1, .slice A1 l1.length c1), (5, .int .i64 v10), (20, .int .i64 (ix (eI .i64).d l0 v10))]) (by kernel_rfl) ?_
      clear hs; intro a hs
      refine q_pvs 4 6 [0, 1, 5, 20, 21, 22] hs (L' := [(0, .slice (some ad17) l0.length c0), (1, .slice A1 l1.length c1), (5, .int .i64 v10), (20, .int .i64 (ix (eI .i64).d l0 v10)), (21, .slice A1 l1.length c1), (22, .int .i64 v10)]) (by kernel_rfl) ?_ rfl
      clear hs; intro a hs
      obtain ⟨hp18, H⟩ := ite_only H
      obtain ⟨ad19, rfl⟩ := (hr1.old hw).some hp18.1 hp18.2
      refine q_run hs (op := (Op.indexAddr 35 (Operand.tmp 21) (Operand.tmp 22))) (ty := 0) (dst := some 23) (g := none) (by kernel_rfl) (by kernel_rfl) (by kernel_rfl) (fun wx hbx => (x_idx (T := 3) (sz := 1) (a := ad19) (n := l1.length) (cap := c1) (k := .i64) (i := v10) (by kernel_rfl) (by kernel_rfl) (by kernel_rfl) (by kernel_rfl) hp18.1 hp18.2)) [0, 1, 5, 20, 23] (L' := [(0, .slice (some ad17) l0.length c0), (1, .slice (some ad19) l1.length c1), (5, .int .i64 v10), (20, .int .i64 (ix (eI .i64).d l0 v10)), (23, .pointer (some (ad19.add (v10.toNat * 1))))]) (by kernel_rfl) ?_
      clear hs; intro a hs
      refine q_run hs (op := (Op.load 3 (Operand.tmp 23))) (ty := 3) (dst := some 24) (g := none) (by kernel_rfl) (by kernel_rfl) (by kernel_rfl) (fun wx hbx => (x_ld (E := (eI .i64)) (off := 0) (p := ad19.add (v10.toNat * 1)) (v := .int .i64 (ix (eI .i64).d l1 v10)) ((hr1.old hw).below hbx) hp18.1 hp18.2 (by kernel_rfl) rfl (by kernel_rfl) (by kernel_rfl))) [0, 1, 5, 20, 24] (L' := [(0, .slice (some ad17) l0.length c0), (1, .slice (some ad19) l1.length c1), (5, .int .i64 v10), (20, .int .i64 (ix (eI .i64).d l0 v10)), (24, .int .i64 (ix (eI .i64).d l1 v10))]) (by kernel_rfl) ?_
      clear hs; intro a hs
      refine q_pvs 8 9 [0, 1, 5, 25] hs (L' := [(0, .slice (some ad17) l0.length c0), (1, .slice (some ad19) l1.length c1), (5, .int .i64 v10), (25, .bool ((ix (eI .i64).d l0 v10) != (ix (eI .i64).d l1 v10)))]) (by kernel_rfl) ?_ rfl
      clear hs; intro a hs
      refine q_end (by kernel_rfl) ?_
      intro wq hbq
      replace hw := hw.behind hbq
      refine hK15 _ _ ?_
      refine go_cond hs ((ix (eI .i64).d l0 v10) != (ix (eI .i64).d l1 v10)) (by kernel_rfl) (fun hc => ?_) (fun hc => ?_)
      · replace H := ite_f H (bne_iff_ne.1 hc)
        have hb20 := hc
        rw [hb20] at hs
        refine go_seq_k fun K21 hK21 => ?_
        refine go_region ?_
        refine go_pvs 0 1 [4] hs (L' := [(4, .bool false)]) (by kernel_rfl) ?_ rfl
        clear hs; intro a hs
        refine go_end (by kernel_rfl) ?_
        refine hK21 _ _ ?_
        refine wp_ret ?_
        refine ib_ret ?_
        refine th_ret ?_
        refine th_ret ?_
        refine ib_ret ?_
        refine th_ret ?_
        rw [← hr9 _ (Option.some.inj H).symm] at HX9
        replace H : some false = some r := HX9
        obtain rfl := Option.some.inj H
        refine ret1 (t := 4) (v := .bool false) hs (by kernel_rfl) (by kernel_rfl) ?_
        exact ⟨rfl, hw.only 0⟩
      · replace H := ite_t H (bne_eq_false_iff_eq.1 hc)
        have hb22 := hc
        rw [hb22] at hs
        refine wp_skip ?_
        refine ib_norm ?_
        refine hK14 _ _ ?_
        refine go_region ?_
        refine go_pvs 0 3 [0, 1, 5] hs (L' := [(0, .slice (some ad17) l0.length c0), (1, .slice (some ad19) l1.length c1), (5, .int .i64 (w64 (v10 + 1)))]) (by kernel_rfl) ?_ rfl
        clear hs; intro a hs
        refine go_end (by kernel_rfl) ?_
        replace hw := hw.only 0
        exact round_end (w64 (v10 + 1)) (Option.some.inj H).symm ⟨hs.keep [0, 1, 5] (by kernel_rfl), hw⟩
    · replace H := ite_f H (of_decide_eq_false hc)
      have hb23 := hc
      rw [hb23] at hs
      refine wp_exit ?_
      refine th_exit ?_
      refine th_exit ?_
      refine in_block ?_
      replace hw := hw.only 0
      rw [← hr9 _ (Option.some.inj H).symm] at HX9
      exact hJ1 _ _ (hs.keep [] (by kernel_rfl)) hw HX9

/-! rivet/rivetref08.Fit: function 27 -/
noncomputable def rivetref08_Fit.j3 (v14 : Int) (l38 : List Int) : Option ((List Int) × Int ⊕ (List Int)) := some (.inl (l38, w64 (v14 + 1)))
noncomputable def rivetref08_Fit.j2 (v14 : Int) (l0 : List Int) (l11 : List Int) : Option ((List Int) × Int ⊕ (List Int)) := (if 0 ≤ v14 ∧ v14 < (l0.length : Int) then (if (band .u8 (ix (eI .u8).d l0 v14) 1) = 1 then (if l11.length + ([v14] : List Int).length ≤ 17592186044416 then rivetref08_Fit.j3 v14 (l11 ++ ([v14] : List Int)) else none) else rivetref08_Fit.j3 v14 l11) else none)
noncomputable def rivetref08_Fit.j1 (v14 : Int) (l0 : List Int) (l11 : List Int) (v18 : Bool) : Option ((List Int) × Int ⊕ (List Int)) := (if v18 = true then rivetref08_Fit.j2 v14 l0 l11 else some (.inr l11))
noncomputable def rivetref08_Fit.j4 (l41 : List Int) : Option (List Int) := some l41
noncomputable def rivetref08_Fit.b10 (a1 : Int) (l0 : List Int) (l11 : List Int) (v14 : Int) : Option ((List Int) × Int ⊕ (List Int)) := (if v14 < a1 then rivetref08_Fit.j1 v14 l0 l11 (decide (v14 < (l0.length : Int))) else rivetref08_Fit.j1 v14 l0 l11 false)
noncomputable def rivetref08_Fit (l0 : List Int) (a1 : Int) : Option (List Int) := ((loopO (fun (σ : (List Int) × Int) => rivetref08_Fit.b10 a1 l0 σ.1 σ.2) (([] : List Int), 0)).bind fun e => rivetref08_Fit.j4 e)
set_option maxRecDepth 100000 in
set_option maxHeartbeats 4000000 in
theorem rivetref08_Fit.calls (A0 : Option Addr) (c0 : Nat) (l0 : List Int) (a1 : Int) (r : (List Int)) (w0 : World) (hr0 : Rd w0 (eI .u8) A0 c0 l0) (H : rivetref08_Fit l0 a1 = some r) :
    Calls Try.prog 27 #[.slice A0 l0.length c0, .int .i64 a1] w0 fun e w' => ∃ A_0 c_0, e = .returned (.slice A_0 r.length c_0) ∧ St [] w0 w' [own 3 (eI .i64) A_0 c_0 r] := by
  have hw : St [] w0 w0 [] := St.nil w0
  unfold rivetref08_Fit at H
  refine go_fn Try.func27 rfl 30 Try.ntmps27 [(0, .slice A0 l0.length c0), (1, .int .i64 a1)] (by kernel_rfl) rfl ?_
  intro a hs
  refine go_seq_k fun K1 hK1 => ?_
  refine go_region ?_
  refine go_pvs 0 1 [0, 1] hs (L' := [(0, .slice A0 l0.length c0), (1, .int .i64 a1)]) (by kernel_rfl) ?_ rfl
  clear hs; intro a hs
  refine go_end (by kernel_rfl) ?_
  refine hK1 _ _ ?_
  refine go_seq_k fun K2 hK2 => ?_
  refine go_region ?_
  obtain ⟨A3, c4, wd5, hx6, hw⟩ := n_lit0 (P := Try.prog) (L := [(0, .slice A0 l0.length c0), (1, .int .i64 a1)]) (t := 35) (ty := 35) (T := 3) hw (eI .i64) (by kernel_rfl) (by kernel_rfl)
  refine go_run hs (op := (Op.buildSlice 35 0 #[])) (ty := 35) (dst := some 7) (g := none) (by kernel_rfl) (by kernel_rfl) (by kernel_rfl) hx6 [0, 1, 7] (L' := [(0, .slice A0 l0.length c0), (1, .int .i64 a1), (7, .slice A3 ([] : List Int).length c4)]) (by kernel_rfl) ?_
  clear hs; intro a hs
  refine go_pvs 1 2 [0, 1, 5] hs (L' := [(0, .slice A0 l0.length c0), (1, .int .i64 a1), (5, .slice A3 ([] : List Int).length c4)]) (by kernel_rfl) ?_ rfl
  clear hs; intro a hs
  refine go_end (by kernel_rfl) ?_
  refine hK2 _ _ ?_
  refine go_seq_k fun K8 hK8 => ?_
  refine go_seq_k fun K9 hK9 => ?_
  refine go_region ?_
  refine go_pvs 0 1 [0, 1, 5, 6] hs (L' := [(0, .slice A0 l0.length c0), (1, .int .i64 a1), (5, .slice A3 ([] : List Int).length c4), (6, .int .i64 0)]) (by kernel_rfl) ?_ rfl
  clear hs; intro a hs
  refine go_end (by kernel_rfl) ?_
  refine hK9 _ _ ?_
  refine wp_block ?_
  obtain ⟨e10, hl10, HX10⟩ := bind_some H
  have hJ4 : ∀ (A42 : Option Addr) (c43 : Nat) (l41 : List Int) (a : Act) (w : World), Slots a 30 [(5, .slice A42 l41.length c43)] → St [] w0 w [own 3 (eI .i64) A42 c43 l41] → rivetref08_Fit.j4 l41 = some r → K8 a w := by
    intro A42 c43 l41 a w hs hw H
    unfold rivetref08_Fit.j4 at H
    refine hK8 _ _ ?_
    refine go_seq_k fun K44 hK44 => ?_
    refine go_region ?_
    refine go_pvs 0 2 [4] hs (L' := [(4, .slice A42 l41.length c43)]) (by kernel_rfl) ?_ rfl
    clear hs; intro a hs
    refine go_end (by kernel_rfl) ?_
    refine hK44 _ _ ?_
    refine wp_ret ?_
    obtain rfl := Option.some.inj H
    refine ret1 (t := 4) (v := .slice A42 l41.length c43) hs (by kernel_rfl) (by kernel_rfl) ?_
    exact ⟨A42, c43, rfl, hw.only 1⟩
  clear H
  refine go_loop (σ := (List Int) × Int) (fun σ a w => ∃ A12, ∃ c13, Slots a 30 [(0, .slice A0 l0.length c0), (1, .int .i64 a1), (5, .slice A12 σ.1.length c13), (6, .int .i64 σ.2)] ∧ St [] w0 w [own 3 (eI .i64) A12 c13 σ.1]) hl10 (by exact ⟨A3, c4, hs.keep [0, 1, 5, 6] (by kernel_rfl), hw⟩) ?_
  rintro ⟨l11, v14⟩ a w ⟨A12, c13, hs, hw⟩ o H hr10
  replace hs : Slots a 30 [(0, .slice A0 l0.length c0), (1, .int .i64 a1), (5, .slice A12 l11.length c13), (6, .int .i64 v14)] := hs
  replace hw : St [] w0 w [own 3 (eI .i64) A12 c13 l11] := hw
  replace H : rivetref08_Fit.b10 a1 l0 l11 v14 = some o := H
  unfold rivetref08_Fit.b10 at H
  refine go_seq_k fun K15 hK15 => ?_
  have hJ2 : ∀ (a : Act) (w : World), Slots a 30 [(0, .slice A0 l0.length c0), (1, .int .i64 a1), (5, .slice A12 l11.length c13), (6, .int .i64 v14)] → St [] w0 w [own 3 (eI .i64) A12 c13 l11] → rivetref08_Fit.j2 v14 l0 l11 = some o → K15 a w := by
    intro a w hs hw H
    unfold rivetref08_Fit.j2 at H
    refine hK15 _ _ ?_
    refine go_seq_k fun K21 hK21 => ?_
    have hJ3 : ∀ (A39 : Option Addr) (c40 : Nat) (l38 : List Int) (a : Act) (w : World), Slots a 30 [(0, .slice A0 l0.length c0), (1, .int .i64 a1), (5, .slice A39 l38.length c40), (6, .int .i64 v14)] → St [] w0 w [own 3 (eI .i64) A39 c40 l38] → rivetref08_Fit.j3 v14 l38 = some o → K21 a w := by
      intro A39 c40 l38 a w hs hw H
      unfold rivetref08_Fit.j3 at H
      refine hK21 _ _ ?_
      refine go_region ?_
      refine go_pvs 0 3 [0, 1, 5, 6] hs (L' := [(0, .slice A0 l0.length c0), (1, .int .i64 a1), (5, .slice A39 l38.length c40), (6, .int .i64 (w64 (v14 + 1)))]) (by kernel_rfl) ?_ rfl
      clear hs; intro a hs
      refine go_end (by kernel_rfl) ?_
      replace hw := hw.only 1
      exact round_end (l38, w64 (v14 + 1)) (Option.some.inj H).symm ⟨A39, c40, hs.keep [0, 1, 5, 6] (by kernel_rfl), hw⟩
    refine wp_block ?_
    refine go_seq_k fun K22 hK22 => ?_
    refine go_region ?_
    refine go_pvs 0 2 [0, 1, 5, 6, 19, 20] hs (L' := [(0, .slice A0 l0.length c0), (1, .int .i64 a1), (5, .slice A12 l11.length c13), (6, .int .i64 v14), (19, .slice A0 l0.length c0), (20, .int .i64 v14)]) (by kernel_rfl) ?_ rfl
    clear hs; intro a hs
    obtain ⟨hp23, H⟩ := ite_only H
    obtain ⟨ad24, rfl⟩ := (hr0.old hw).some hp23.1 hp23.2
    refine go_run hs (op := (Op.indexAddr 43 (Operand.tmp 19) (Operand.tmp 20))) (ty := 0) (dst := some 21) (g := none) (by kernel_rfl) (by kernel_rfl) (by kernel_rfl) (x_idx (T := 5) (sz := 1) (a := ad24) (n := l0.length) (cap := c0) (k := .i64) (i := v14) (by kernel_rfl) (by kernel_rfl) (by kernel_rfl) (by kernel_rfl) hp23.1 hp23.2) [0, 1, 5, 6, 21] (L' := [(0, .slice (some ad24) l0.length c0), (1, .int .i64 a1), (5, .slice A12 l11.length c13), (6, .int .i64 v14), (21, .pointer (some (ad24.add (v14.toNat * 1))))]) (by kernel_rfl) ?_
    clear hs; intro a hs
    refine go_run hs (op := (Op.load 5 (Operand.tmp 21))) (ty := 5) (dst := some 22) (g := none) (by kernel_rfl) (by kernel_rfl) (by kernel_rfl) (x_ld (E := (eI .u8)) (off := 0) (p := ad24.add (v14.toNat * 1)) (v := .int .u8 (ix (eI .u8).d l0 v14)) (hr0.old hw) hp23.1 hp23.2 (by kernel_rfl) rfl (by kernel_rfl) (by kernel_rfl)) [0, 1, 5, 6, 22] (L' := [(0, .slice (some ad24) l0.length c0), (1, .int .i64 a1), (5, .slice A12 l11.length c13), (6, .int .i64 v14), (22, .int .u8 (ix (eI .u8).d l0 v14))]) (by kernel_rfl) ?_
    clear hs; intro a hs
    refine go_pvs 4 6 [0, 1, 5, 6, 24] hs (L' := [(0, .slice (some ad24) l0.length c0), (1, .int .i64 a1), (5, .slice A12 l11.length c13), (6, .int .i64 v14), (24, .bool ((band .u8 (ix (eI .u8).d l0 v14) 1) == 1))]) (by kernel_rfl) ?_ rfl
    clear hs; intro a hs
    refine go_end (by kernel_rfl) ?_
    refine hK22 _ _ ?_
    refine go_cond hs ((band .u8 (ix (eI .u8).d l0 v14) 1) == 1) (by kernel_rfl) (fun hc => ?_) (fun hc => ?_)
    · replace H := ite_t H (beq_iff_eq.1 hc)
      have hb25 := hc
      rw [hb25] at hs
      refine go_region ?_
      refine go_pvs 0 2 [0, 1, 6, 25, 26] hs (L' := [(0, .slice (some ad24) l0.length c0), (1, .int .i64 a1), (6, .int .i64 v14), (25, .slice A12 l11.length c13), (26, .int .i64 v14)]) (by kernel_rfl) ?_ rfl
      clear hs; intro a hs
      obtain ⟨A26, c27, wd28, hx29, hw⟩ := n_lit (P := Try.prog) (L := [(0, .slice (some ad24) l0.length c0), (1, .int .i64 a1), (6, .int .i64 v14), (25, .slice A12 l11.length c13), (26, .int .i64 v14)]) (t := 35) (ty := 35) (T := 3) (len := 1) (parts := #[(0, (Operand.tmp 26))]) (z := .int .i64 0) (bytes := 8) (cells := #[.int .i64 v14]) hw (eI .i64) ([v14] : List Int) (by kernel_rfl) (by kernel_rfl) (by kernel_rfl) (by kernel_rfl) (by kernel_rfl) (by kernel_rfl) (by kernel_rfl)
      refine go_run hs (op := (Op.buildSlice 35 1 #[(0, (Operand.tmp 26))])) (ty := 35) (dst := some 27) (g := none) (by kernel_rfl) (by kernel_rfl) (by kernel_rfl) hx29 [0, 1, 6, 25, 27] (L' := [(0, .slice (some ad24) l0.length c0), (1, .int .i64 a1), (6, .int .i64 v14), (25, .slice A12 l11.length c13), (27, .slice A26 ([v14] : List Int).length c27)]) (by kernel_rfl) ?_
      clear hs; intro a hs
      obtain ⟨hp31, H⟩ := ite_only H
      have hsrc36 : Src Try.prog (eI .i64).sz 35 (.slice A26 ([v14] : List Int).length c27) ([v14] : List Int).length (([v14] : List Int).flatMap (eI .i64).enc) _ := (Src.of_rd (E := (eI .i64)) (e' := 3) (by kernel_rfl) (Rd.of_own (hw.up 0)))
      replace hw := hw.up 1
      obtain ⟨A32, c33, wd34, hx35, hw⟩ := x_append (P := Try.prog) (L := [(0, .slice (some ad24) l0.length c0), (1, .int .i64 a1), (6, .int .i64 v14), (25, .slice A12 l11.length c13), (27, .slice A26 ([v14] : List Int).length c27)]) (t := 35) (tx := 35) (ty := 35) (x := (Operand.tmp 25)) (y := (Operand.tmp 27)) (z := .int .i64 0) (bytes := 8) (l2 := ([v14] : List Int)) hw (by kernel_rfl) (by kernel_rfl) (by kernel_rfl) (by kernel_rfl) (by kernel_rfl) hsrc36 (by omega) (by omega)
      refine go_run hs (op := (Op.call { callee := (Callee.builtin Builtin.append), args := #[(Operand.tmp 25), (Operand.tmp 27)], argTypes := #[35, 35] })) (ty := 35) (dst := some 28) (g := none) (by kernel_rfl) (by kernel_rfl) (by kernel_rfl) hx35 [0, 1, 6, 28] (L' := [(0, .slice (some ad24) l0.length c0), (1, .int .i64 a1), (6, .int .i64 v14), (28, .slice A32 (l11 ++ ([v14] : List Int)).length c33)]) (by kernel_rfl) ?_
      clear hs; intro a hs
      refine go_pvs 4 5 [0, 1, 5, 6] hs (L' := [(0, .slice (some ad24) l0.length c0), (1, .int .i64 a1), (5, .slice A32 (l11 ++ ([v14] : List Int)).length c33), (6, .int .i64 v14)]) (by kernel_rfl) ?_ rfl
      clear hs; intro a hs
      refine go_end (by kernel_rfl) ?_
      refine ib_norm ?_
      replace hw := hw.only 1
      exact hJ3 A32 c33 (l11 ++ ([v14] : List Int)) _ _ (hs.keep [0, 1, 5, 6] (by kernel_rfl)) hw H
    · replace H := ite_f H (beq_eq_false_iff_ne.1 hc)
      have hb37 := hc
      rw [hb37] at hs
      refine wp_skip ?_
      refine ib_norm ?_
      replace hw := hw.only 1
      exact hJ3 A12 c13 l11 _ _ (hs.keep [0, 1, 5, 6] (by kernel_rfl)) hw H
  refine go_seq_k fun K16 hK16 => ?_
  have hJ1 : ∀ (v18 : Bool) (a : Act) (w : World), Slots a 30 [(0, .slice A0 l0.length c0), (1, .int .i64 a1), (5, .slice A12 l11.length c13), (6, .int .i64 v14), (16, .bool v18)] → St [] w0 w [own 3 (eI .i64) A12 c13 l11] → rivetref08_Fit.j1 v14 l0 l11 v18 = some o → K16 a w := by
    intro v18 a w hs hw H
    unfold rivetref08_Fit.j1 at H
    refine hK16 _ _ ?_
    refine go_cond hs v18 (by kernel_rfl) (fun hc => ?_) (fun hc => ?_)
    · replace H := ite_t H hc
      have hb19 := hc
      rw [hb19] at hs
      refine wp_skip ?_
      replace hw := hw.only 1
      exact hJ2 _ _ (hs.keep [0, 1, 5, 6] (by kernel_rfl)) hw H
    · replace H := ite_f H (ff hc)
      have hb20 := hc
      rw [hb20] at hs
      refine wp_exit ?_
      refine th_exit ?_
      refine th_exit ?_
      refine in_block ?_
      replace hw := hw.only 1
      rw [← hr10 _ (Option.some.inj H).symm] at HX10
      exact hJ4 A12 c13 l11 _ _ (hs.keep [5] (by kernel_rfl)) hw HX10
  refine go_region ?_
  refine go_pvs 0 4 [0, 1, 5, 6, 11] hs (L' := [(0, .slice A0 l0.length c0), (1, .int .i64 a1), (5, .slice A12 l11.length c13), (6, .int .i64 v14), (11, .bool (decide (v14 < a1)))]) (by kernel_rfl) ?_ rfl
  clear hs; intro a hs
  cases hb17 : (decide (v14 < a1))
  · replace H := ite_f H (of_decide_eq_false hb17)
    rw [hb17] at hs
    refine go_pvs 4 9 [0, 1, 5, 6, 16] hs (L' := [(0, .slice A0 l0.length c0), (1, .int .i64 a1), (5, .slice A12 l11.length c13), (6, .int .i64 v14), (16, .bool false)]) (by kernel_rfl) ?_ rfl
    clear hs; intro a hs
    refine go_end (by kernel_rfl) ?_
    replace hw := hw.only 1
    exact hJ1 false _ _ (hs.keep [0, 1, 5, 6, 16] (by kernel_rfl)) hw H
  · replace H := ite_t H (of_decide_eq_true hb17)
    rw [hb17] at hs
    refine go_pvs 4 9 [0, 1, 5, 6, 16] hs (L' := [(0, .slice A0 l0.length c0), (1, .int .i64 a1), (5, .slice A12 l11.length c13), (6, .int .i64 v14), (16, .bool (decide (v14 < (l0.length : Int))))]) (by kernel_rfl) ?_ rfl
    clear hs; intro a hs
    refine go_end (by kernel_rfl) ?_
    replace hw := hw.only 1
    exact hJ1 (decide (v14 < (l0.length : Int))) _ _ (hs.keep [0, 1, 5, 6, 16] (by kernel_rfl)) hw H

/-! rivet/rivetref08.Rise: function 40 -/
noncomputable def rivetref08_Rise.j2 (v5 : Int) : Option (Int ⊕ (Ex Bool Unit)) := some (.inl (w64 (v5 + 1)))
noncomputable def rivetref08_Rise.j1 (v5 : Int) (v21 : Bool) : Option (Int ⊕ (Ex Bool Unit)) := (if v21 = true then some (.inr (.ret false)) else rivetref08_Rise.j2 v5)
noncomputable def rivetref08_Rise.j3 : Option Bool := some true
noncomputable def rivetref08_Rise.b4 (l0 : List Int) (a1 : Int) (v5 : Int) : Option (Int ⊕ (Ex Bool Unit)) := (if v5 < (l0.length : Int) then (if 0 ≤ v5 ∧ v5 < (l0.length : Int) then (if (ix (eI .i64).d l0 v5) < 0 then rivetref08_Rise.j1 v5 true else (if 0 ≤ v5 ∧ v5 < (l0.length : Int) then (if (ix (eI .i64).d l0 v5) ≥ a1 then rivetref08_Rise.j1 v5 true else (if 0 ≤ v5 ∧ v5 < (l0.length : Int) then (if (ix (eI .i64).d l0 v5) > 65534 then rivetref08_Rise.j1 v5 true else (if v5 > 0 then (if 0 ≤ v5 ∧ v5 < (l0.length : Int) then (if 0 ≤ (w64 (v5 - 1)) ∧ (w64 (v5 - 1)) < (l0.length : Int) then rivetref08_Rise.j1 v5 (decide ((ix (eI .i64).d l0 v5) ≤ (ix (eI .i64).d l0 (w64 (v5 - 1))))) else none) else none) else rivetref08_Rise.j1 v5 false)) else none)) else none)) else none) else some (.inr (.done ())))
noncomputable def rivetref08_Rise (l0 : List Int) (a1 : Int) : Option Bool := ((loopO (fun (σ : Int) => rivetref08_Rise.b4 l0 a1 σ) 0).bind fun e => match e with | .ret x => some x | .done e => rivetref08_Rise.j3)
set_option maxRecDepth 100000 in
set_option maxHeartbeats 4000000 in
theorem rivetref08_Rise.calls (A0 : Option Addr) (c0 : Nat) (l0 : List Int) (a1 : Int) (r : Bool) (w0 : World) (hr0 : Rd w0 (eI .i64) A0 c0 l0) (H : rivetref08_Rise l0 a1 = some r) :
    Calls Try.prog 40 #[.slice A0 l0.length c0, .int .i64 a1] w0 fun e w' => e = .returned (.bool r) ∧ St [] w0 w' [] := by
  have hw : St [] w0 w0 [] := St.nil w0
  unfold rivetref08_Rise at H
  refine go_fn Try.func40 rfl 48 Try.ntmps40 [(0, .slice A0 l0.length c0), (1, .int .i64 a1)] (by kernel_rfl) rfl ?_
  intro a hs
  refine go_seq_k fun K1 hK1 => ?_
  refine go_region ?_
  refine go_pvs 0 1 [0, 1] hs (L' := [(0, .slice A0 l0.length c0), (1, .int .i64 a1)]) (by kernel_rfl) ?_ rfl
  clear hs; intro a hs
  refine go_end (by kernel_rfl) ?_
  refine hK1 _ _ ?_
  refine go_seq_k fun K2 hK2 => ?_
  refine go_seq_k fun K3 hK3 => ?_
  refine go_region ?_
  refine go_pvs 0 1 [0, 1, 5] hs (L' := [(0, .slice A0 l0.length c0), (1, .int .i64 a1), (5, .int .i64 0)]) (by kernel_rfl) ?_ rfl
  clear hs; intro a hs
  refine go_end (by kernel_rfl) ?_
  refine hK3 _ _ ?_
  refine wp_block ?_
  obtain ⟨e4, hl4, HX4⟩ := bind_some H
  have hJ3 : ∀ (a : Act) (w : World), Slots a 48 [] → St [] w0 w [] → rivetref08_Rise.j3 = some r → K2 a w := by
    intro a w hs hw H
    unfold rivetref08_Rise.j3 at H
    refine hK2 _ _ ?_
    refine go_seq_k fun K26 hK26 => ?_
    refine go_region ?_
    refine go_pvs 0 1 [4] hs (L' := [(4, .bool true)]) (by kernel_rfl) ?_ rfl
    clear hs; intro a hs
    refine go_end (by kernel_rfl) ?_
    refine hK26 _ _ ?_
    refine wp_ret ?_
    obtain rfl := Option.some.inj H
    refine ret1 (t := 4) (v := .bool true) hs (by kernel_rfl) (by kernel_rfl) ?_
    exact ⟨rfl, hw.only 0⟩
  clear H
  refine go_loop (σ := Int) (fun σ a w => Slots a 48 [(0, .slice A0 l0.length c0), (1, .int .i64 a1), (5, .int .i64 σ)] ∧ St [] w0 w []) hl4 (by exact ⟨hs.keep [0, 1, 5] (by kernel_rfl), hw⟩) ?_
  rintro v5 a w ⟨hs, hw⟩ o H hr4
  replace hs : Slots a 48 [(0, .slice A0 l0.length c0), (1, .int .i64 a1), (5, .int .i64 v5)] := hs
  replace hw : St [] w0 w [] := hw
  replace H : rivetref08_Rise.b4 l0 a1 v5 = some o := H
  unfold rivetref08_Rise.b4 at H
  refine go_seq_k fun K6 hK6 => ?_
  refine go_seq_k fun K7 hK7 => ?_
  refine go_region ?_
  refine go_pvs 0 4 [0, 1, 5, 9] hs (L' := [(0, .slice A0 l0.length c0), (1, .int .i64 a1), (5, .int .i64 v5), (9, .bool (decide (v5 < (l0.length : Int))))]) (by kernel_rfl) ?_ rfl
  clear hs; intro a hs
  refine go_end (by kernel_rfl) ?_
  refine hK7 _ _ ?_
  refine go_cond hs (decide (v5 < (l0.length : Int))) (by kernel_rfl) (fun hc => ?_) (fun hc => ?_)
  · replace H := ite_t H (of_decide_eq_true hc)
    have hb8 := hc
    rw [hb8] at hs
    refine wp_skip ?_
    refine hK6 _ _ ?_
    refine go_seq_k fun K9 hK9 => ?_
    have hJ2 : ∀ (a : Act) (w : World), Slots a 48 [(0, .slice A0 l0.length c0), (1, .int .i64 a1), (5, .int .i64 v5)] → St [] w0 w [] → rivetref08_Rise.j2 v5 = some o → K9 a w := by
      intro a w hs hw H
      unfold rivetref08_Rise.j2 at H
      refine hK9 _ _ ?_
      refine go_region ?_
      refine go_pvs 0 3 [0, 1, 5] hs (L' := [(0, .slice A0 l0.length c0), (1, .int .i64 a1), (5, .int .i64 (w64 (v5 + 1)))]) (by kernel_rfl) ?_ rfl
      clear hs; intro a hs
      refine go_end (by kernel_rfl) ?_
      replace hw := hw.only 0
      exact round_end (w64 (v5 + 1)) (Option.some.inj H).symm ⟨hs.keep [0, 1, 5] (by kernel_rfl), hw⟩
    refine wp_block ?_
    refine go_seq_k fun K10 hK10 => ?_
    have hJ1 : ∀ (v21 : Bool) (a : Act) (w : World), Slots a 48 [(0, .slice A0 l0.length c0), (1, .int .i64 a1), (5, .int .i64 v5), (47, .bool v21)] → St [] w0 w [] → rivetref08_Rise.j1 v5 v21 = some o → K10 a w := by
      intro v21 a w hs hw H
      unfold rivetref08_Rise.j1 at H
      refine hK10 _ _ ?_
      refine go_cond hs v21 (by kernel_rfl) (fun hc => ?_) (fun hc => ?_)
      · replace H := ite_t H hc
        have hb22 := hc
        rw [hb22] at hs
        refine go_seq_k fun K23 hK23 => ?_
        refine go_region ?_
        refine go_pvs 0 1 [4] hs (L' := [(4, .bool false)]) (by kernel_rfl) ?_ rfl
        clear hs; intro a hs
        refine go_end (by kernel_rfl) ?_
        refine hK23 _ _ ?_
        refine wp_ret ?_
        refine ib_ret ?_
        refine th_ret ?_
        refine th_ret ?_
        refine ib_ret ?_
        refine th_ret ?_
        rw [← hr4 _ (Option.some.inj H).symm] at HX4
        replace H : some false = some r := HX4
        obtain rfl := Option.some.inj H
        refine ret1 (t := 4) (v := .bool false) hs (by kernel_rfl) (by kernel_rfl) ?_
        exact ⟨rfl, hw.only 0⟩
      · replace H := ite_f H (ff hc)
        have hb24 := hc
        rw [hb24] at hs
        refine wp_skip ?_
        refine ib_norm ?_
        replace hw := hw.only 0
        exact hJ2 _ _ (hs.keep [0, 1, 5] (by kernel_rfl)) hw H
    refine q_region (by kernel_rfl) (by kernel_rfl) ?_
    refine q_pvs 0 2 [0, 1, 5, 12, 13] hs (L' := [(0, .slice A0 l0.length c0), (1, .int .i64 a1), (5, .int .i64 v5), (12, .slice A0 l0.length c0), (13, .int .i64 v5)]) (by kernel_rfl) ?_ rfl
    clear hs; intro a hs
    obtain ⟨hp11, H⟩ := ite_only H
    obtain ⟨ad12, rfl⟩ := (hr0.old hw).some hp11.1 hp11.2
    refine q_run hs (op := (Op.indexAddr 35 (Operand.tmp 12) (Operand.tmp 13))) (ty := 0) (dst := some 14) (g := none) (by kernel_rfl) (by kernel_rfl) (by kernel_rfl) (fun wx hbx => (x_idx (T := 3) (sz := 1) (a := ad12) (n := l0.length) (cap := c0) (k := .i64) (i := v5) (by kernel_rfl) (by kernel_rfl) (by kernel_rfl) (by kernel_rfl) hp11.1 hp11.2)) [0, 1, 5, 14] (L' := [(0, .slice (some ad12) l0.length c0), (1, .int .i64 a1), (5, .int .i64 v5), (14, .pointer (some (ad12.add (v5.toNat * 1))))]) (by kernel_rfl) ?_
    clear hs; intro a hs
    refine q_run hs (op := (Op.load 3 (Operand.tmp 14))) (ty := 3) (dst := some 15) (g := none) (by kernel_rfl) (by kernel_rfl) (by kernel_rfl) (fun wx hbx => (x_ld (E := (eI .i64)) (off := 0) (p := ad12.add (v5.toNat * 1)) (v := .int .i64 (ix (eI .i64).d l0 v5)) ((hr0.old hw).below hbx) hp11.1 hp11.2 (by kernel_rfl) rfl (by kernel_rfl) (by kernel_rfl))) [0, 1, 5, 15] (L' := [(0, .slice (some ad12) l0.length c0), (1, .int .i64 a1), (5, .int .i64 v5), (15, .int .i64 (ix (eI .i64).d l0 v5))]) (by kernel_rfl) ?_
    clear hs; intro a hs
    refine q_pvs 4 6 [0, 1, 5, 17] hs (L' := [(0, .slice (some ad12) l0.length c0), (1, .int .i64 a1), (5, .int .i64 v5), (17, .bool (decide ((ix (eI .i64).d l0 v5) < 0)))]) (by kernel_rfl) ?_ rfl
    clear hs; intro a hs
    cases hb13 : (decide ((ix (eI .i64).d l0 v5) < 0))
    · replace H := ite_f H (of_decide_eq_false hb13)
      rw [hb13] at hs
      refine q_pvs 6 8 [0, 1, 5, 17, 18, 19] hs (L' := [(0, .slice (some ad12) l0.length c0), (1, .int .i64 a1), (5, .int .i64 v5), (17, .bool false), (18, .slice (some ad12) l0.length c0), (19, .int .i64 v5)]) (by kernel_rfl) ?_ rfl
      clear hs; intro a hs
      obtain ⟨hp14, H⟩ := ite_only H
      refine q_run hs (op := (Op.indexAddr 35 (Operand.tmp 18) (Operand.tmp 19))) (ty := 0) (dst := some 20) (g := some (5, false)) (by kernel_rfl) (by kernel_rfl) (by kernel_rfl) (fun wx hbx => (x_idx (T := 3) (sz := 1) (a := ad12) (n := l0.length) (cap := c0) (k := .i64) (i := v5) (by kernel_rfl) (by kernel_rfl) (by kernel_rfl) (by kernel_rfl) hp14.1 hp14.2)) [0, 1, 5, 17, 20] (L' := [(0, .slice (some ad12) l0.length c0), (1, .int .i64 a1), (5, .int .i64 v5), (17, .bool false), (20, .pointer (some (ad12.add (v5.toNat * 1))))]) (by kernel_rfl) ?_
      clear hs; intro a hs
      refine q_run hs (op := (Op.load 3 (Operand.tmp 20))) (ty := 3) (dst := some 21) (g := some (5, false)) (by kernel_rfl) (by kernel_rfl) (by kernel_rfl) (fun wx hbx => (x_ld (E := (eI .i64)) (off := 0) (p := ad12.add (v5.toNat * 1)) (v := .int .i64 (ix (eI .i64).d l0 v5)) ((hr0.old hw).below hbx) hp14.1 hp14.2 (by kernel_rfl) rfl (by kernel_rfl) (by kernel_rfl))) [0, 1, 5, 17, 21] (L' := [(0, .slice (some ad12) l0.length c0), (1, .int .i64 a1), (5, .int .i64 v5), (17, .bool false), (21, .int .i64 (ix (eI .i64).d l0 v5))]) (by kernel_rfl) ?_
      clear hs; intro a hs
      refine q_pvs 10 14 [0, 1, 5, 25] hs (L' := [(0, .slice (some ad12) l0.length c0), (1, .int .i64 a1), (5, .int .i64 v5), (25, .bool (decide ((ix (eI .i64).d l0 v5) ≥ a1)))]) (by kernel_rfl) ?_ rfl
      clear hs; intro a hs
      cases hb15 : (decide ((ix (eI .i64).d l0 v5) ≥ a1))
      · replace H := ite_f H (of_decide_eq_false hb15)
        rw [hb15] at hs
        refine q_pvs 14 16 [0, 1, 5, 25, 26, 27] hs (L' := [(0, .slice (some ad12) l0.length c0), (1, .int .i64 a1), (5, .int .i64 v5), (25, .bool false), (26, .slice (some ad12) l0.length c0), (27, .int .i64 v5)]) (by kernel_rfl) ?_ rfl
        clear hs; intro a hs
        obtain ⟨hp16, H⟩ := ite_only H
        refine q_run hs (op := (Op.indexAddr 35 (Operand.tmp 26) (Operand.tmp 27))) (ty := 0) (dst := some 28) (g := some (13, false)) (by kernel_rfl) (by kernel_rfl) (by kernel_rfl) (fun wx hbx => (x_idx (T := 3) (sz := 1) (a := ad12) (n := l0.length) (cap := c0) (k := .i64) (i := v5) (by kernel_rfl) (by kernel_rfl) (by kernel_rfl) (by kernel_rfl) hp16.1 hp16.2)) [0, 1, 5, 25, 28] (L' := [(0, .slice (some ad12) l0.length c0), (1, .int .i64 a1), (5, .int .i64 v5), (25, .bool false), (28, .pointer (some (ad12.add (v5.toNat * 1))))]) (by kernel_rfl) ?_
        clear hs; intro a hs
        refine q_run hs (op := (Op.load 3 (Operand.tmp 28))) (ty := 3) (dst := some 29) (g := some (13, false)) (by kernel_rfl) (by kernel_rfl) (by kernel_rfl) (fun wx hbx => (x_ld (E := (eI .i64)) (off := 0) (p := ad12.add (v5.toNat * 1)) (v := .int .i64 (ix (eI .i64).d l0 v5)) ((hr0.old hw).below hbx) hp16.1 hp16.2 (by kernel_rfl) rfl (by kernel_rfl) (by kernel_rfl))) [0, 1, 5, 25, 29] (L' := [(0, .slice (some ad12) l0.length c0), (1, .int .i64 a1), (5, .int .i64 v5), (25, .bool false), (29, .int .i64 (ix (eI .i64).d l0 v5))]) (by kernel_rfl) ?_
        clear hs; intro a hs
        refine q_pvs 18 21 [0, 1, 5, 32] hs (L' := [(0, .slice (some ad12) l0.length c0), (1, .int .i64 a1), (5, .int .i64 v5), (32, .bool (decide ((ix (eI .i64).d l0 v5) > 65534)))]) (by kernel_rfl) ?_ rfl
        clear hs; intro a hs
        cases hb17 : (decide ((ix (eI .i64).d l0 v5) > 65534))
        · replace H := ite_f H (of_decide_eq_false hb17)
          rw [hb17] at hs
          refine q_pvs 21 24 [0, 1, 5, 32, 35] hs (L' := [(0, .slice (some ad12) l0.length c0), (1, .int .i64 a1), (5, .int .i64 v5), (32, .bool false), (35, .bool (decide (v5 > 0)))]) (by kernel_rfl) ?_ rfl
          clear hs; intro a hs
          cases hb18 : (decide (v5 > 0))
          · replace H := ite_f H (of_decide_eq_false hb18)
            rw [hb18] at hs
            refine q_pvs 24 36 [0, 1, 5, 47] hs (L' := [(0, .slice (some ad12) l0.length c0), (1, .int .i64 a1), (5, .int .i64 v5), (47, .bool false)]) (by kernel_rfl) ?_ rfl
            clear hs; intro a hs
            refine q_end (by kernel_rfl) ?_
            intro wq hbq
            replace hw := hw.behind hbq
            replace hw := hw.only 0
            exact hJ1 false _ _ (hs.keep [0, 1, 5, 47] (by kernel_rfl)) hw H
          · replace H := ite_t H (of_decide_eq_true hb18)
            rw [hb18] at hs
            refine q_pvs 24 26 [0, 1, 5, 32, 35, 36, 37] hs (L' := [(0, .slice (some ad12) l0.length c0), (1, .int .i64 a1), (5, .int .i64 v5), (32, .bool false), (35, .bool true), (36, .slice (some ad12) l0.length c0), (37, .int .i64 v5)]) (by kernel_rfl) ?_ rfl
            clear hs; intro a hs
            obtain ⟨hp19, H⟩ := ite_only H
            refine q_run hs (op := (Op.indexAddr 35 (Operand.tmp 36) (Operand.tmp 37))) (ty := 0) (dst := some 38) (g := some (23, true)) (by kernel_rfl) (by kernel_rfl) (by kernel_rfl) (fun wx hbx => (x_idx (T := 3) (sz := 1) (a := ad12) (n := l0.length) (cap := c0) (k := .i64) (i := v5) (by kernel_rfl) (by kernel_rfl) (by kernel_rfl) (by kernel_rfl) hp19.1 hp19.2)) [0, 1, 5, 32, 35, 38] (L' := [(0, .slice (some ad12) l0.length c0), (1, .int .i64 a1), (5, .int .i64 v5), (32, .bool false), (35, .bool true), (38, .pointer (some (ad12.add (v5.toNat * 1))))]) (by kernel_rfl) ?_
            clear hs; intro a hs
            refine q_run hs (op := (Op.load 3 (Operand.tmp 38))) (ty := 3) (dst := some 39) (g := some (23, true)) (by kernel_rfl) (by kernel_rfl) (by kernel_rfl) (fun wx hbx => (x_ld (E := (eI .i64)) (off := 0) (p := ad12.add (v5.toNat * 1)) (v := .int .i64 (ix (eI .i64).d l0 v5)) ((hr0.old hw).below hbx) hp19.1 hp19.2 (by kernel_rfl) rfl (by kernel_rfl) (by kernel_rfl))) [0, 1, 5, 32, 35, 39] (L' := [(0, .slice (some ad12) l0.length c0), (1, .int .i64 a1), (5, .int .i64 v5), (32, .bool false), (35, .bool true), (39, .int .i64 (ix (eI .i64).d l0 v5))]) (by kernel_rfl) ?_
            clear hs; intro a hs
            refine q_pvs 28 31 [0, 1, 5, 32, 35, 39, 40, 42] hs (L' := [(0, .slice (some ad12) l0.length c0), (1, .int .i64 a1), (5, .int .i64 v5), (32, .bool false), (35, .bool true), (39, .int .i64 (ix (eI .i64).d l0 v5)), (40, .slice (some ad12) l0.length c0), (42, .int .i64 (w64 (v5 - 1)))]) (by kernel_rfl) ?_ rfl
            clear hs; intro a hs
            obtain ⟨hp20, H⟩ := ite_only H
            refine q_run hs (op := (Op.indexAddr 35 (Operand.tmp 40) (Operand.tmp 42))) (ty := 0) (dst := some 43) (g := some (23, true)) (by kernel_rfl) (by kernel_rfl) (by kernel_rfl) (fun wx hbx => (x_idx (T := 3) (sz := 1) (a := ad12) (n := l0.length) (cap := c0) (k := .i64) (i := (w64 (v5 - 1))) (by kernel_rfl) (by kernel_rfl) (by kernel_rfl) (by kernel_rfl) hp20.1 hp20.2)) [0, 1, 5, 32, 35, 39, 43] (L' := [(0, .slice (some ad12) l0.length c0), (1, .int .i64 a1), (5, .int .i64 v5), (32, .bool false), (35, .bool true), (39, .int .i64 (ix (eI .i64).d l0 v5)), (43, .pointer (some (ad12.add ((w64 (v5 - 1)).toNat * 1))))]) (by kernel_rfl) ?_
            clear hs; intro a hs
            refine q_run hs (op := (Op.load 3 (Operand.tmp 43))) (ty := 3) (dst := some 44) (g := some (23, true)) (by kernel_rfl) (by kernel_rfl) (by kernel_rfl) (fun wx hbx => (x_ld (E := (eI .i64)) (off := 0) (p := ad12.add ((w64 (v5 - 1)).toNat * 1)) (v := .int .i64 (ix (eI .i64).d l0 (w64 (v5 - 1)))) ((hr0.old hw).below hbx) hp20.1 hp20.2 (by kernel_rfl) rfl (by kernel_rfl) (by kernel_rfl))) [0, 1, 5, 32, 35, 39, 44] (L' := [(0, .slice (some ad12) l0.length c0), (1, .int .i64 a1), (5, .int .i64 v5), (32, .bool false), (35, .bool true), (39, .int .i64 (ix (eI .i64).d l0 v5)), (44, .int .i64 (ix (eI .i64).d l0 (w64 (v5 - 1))))]) (by kernel_rfl) ?_
            clear hs; intro a hs
            refine q_pvs 33 36 [0, 1, 5, 47] hs (L' := [(0, .slice (some ad12) l0.length c0), (1, .int .i64 a1), (5, .int .i64 v5), (47, .bool (decide ((ix (eI .i64).d l0 v5) ≤ (ix (eI .i64).d l0 (w64 (v5 - 1))))))]) (by kernel_rfl) ?_ rfl
            clear hs; intro a hs
            refine q_end (by kernel_rfl) ?_
            intro wq hbq
            replace hw := hw.behind hbq
            replace hw := hw.only 0
            exact hJ1 (decide ((ix (eI .i64).d l0 v5) ≤ (ix (eI .i64).d l0 (w64 (v5 - 1))))) _ _ (hs.keep [0, 1, 5, 47] (by kernel_rfl)) hw H
        · replace H := ite_t H (of_decide_eq_true hb17)
          rw [hb17] at hs
          refine q_pvs 21 36 [0, 1, 5, 47] hs (L' := [(0, .slice (some ad12) l0.length c0), (1, .int .i64 a1), (5, .int .i64 v5), (47, .bool true)]) (by kernel_rfl) ?_ rfl
          clear hs; intro a hs
          refine q_end (by kernel_rfl) ?_
          intro wq hbq
          replace hw := hw.behind hbq
          replace hw := hw.only 0
          exact hJ1 true _ _ (hs.keep [0, 1, 5, 47] (by kernel_rfl)) hw H
      · replace H := ite_t H (of_decide_eq_true hb15)
        rw [hb15] at hs
        refine q_pvs 14 36 [0, 1, 5, 47] hs (L' := [(0, .slice (some ad12) l0.length c0), (1, .int .i64 a1), (5, .int .i64 v5), (47, .bool true)]) (by kernel_rfl) ?_ rfl
        clear hs; intro a hs
        refine q_end (by kernel_rfl) ?_
        intro wq hbq
        replace hw := hw.behind hbq
        replace hw := hw.only 0
        exact hJ1 true _ _ (hs.keep [0, 1, 5, 47] (by kernel_rfl)) hw H
    · replace H := ite_t H (of_decide_eq_true hb13)
      rw [hb13] at hs
      refine q_pvs 6 36 [0, 1, 5, 47] hs (L' := [(0, .slice (some ad12) l0.length c0), (1, .int .i64 a1), (5, .int .i64 v5), (47, .bool true)]) (by kernel_rfl) ?_ rfl
      clear hs; intro a hs
      refine q_end (by kernel_rfl) ?_
      intro wq hbq
      replace hw := hw.behind hbq
      replace hw := hw.only 0
      exact hJ1 true _ _ (hs.keep [0, 1, 5, 47] (by kernel_rfl)) hw H
  · replace H := ite_f H (of_decide_eq_false hc)
    have hb25 := hc
    rw [hb25] at hs
    refine wp_exit ?_
    refine th_exit ?_
    refine th_exit ?_
    refine in_block ?_
    replace hw := hw.only 0
    rw [← hr4 _ (Option.some.inj H).symm] at HX4
    exact hJ3 _ _ (hs.keep [] (by kernel_rfl)) hw HX4

/-! rivet/rivetref08.Pack: function 23 -/
noncomputable def rivetref08_Pack.j1 (l54 : List Int) (v55 : Int) : Option ((List Int) × Int × Int) := some (l54, v55, 0)
noncomputable def rivetref08_Pack.b28 (l1 : List Int) (l29 : List Int) (v30 : Int) (v31 : Int) : Option ((List Int) × Int × Int ⊕ (Ex ((List Int) × Int × Int) ((List Int) × Int))) := (if v31 < (l1.length : Int) then (if 0 ≤ v31 ∧ v31 < (l1.length : Int) then (if 0 ≤ (ix (eI .i64).d l1 v31) ∧ (ix (eI .i64).d l1 v31) < (l29.length : Int) then (if (ix (eI .u32).d l29 (ix (eI .i64).d l1 v31)) > 65535 then some (.inr (.ret (([] : List Int), 0, 8))) else (if 0 ≤ v31 ∧ v31 < (l1.length : Int) then (if 0 ≤ (ix (eI .i64).d l1 v31) ∧ (ix (eI .i64).d l1 v31) < (l29.length : Int) then (if 0 ≤ v31 ∧ v31 < (l1.length : Int) then some (.inl (l29.set ((ix (eI .i64).d l1 v31) : Int).toNat (wu32 ((wu32 ((ix (eI .u32).d l29 (ix (eI .i64).d l1 v31)) * 65536)) + (wu32 v30))), w64 ((ix (eI .i64).d l1 v31) + 1), w64 (v31 + 1))) else none) else none) else none)) else none) else none) else some (.inr (.done (l29, v30))))
noncomputable def rivetref08_Pack (l0 : List Int) (l1 : List Int) : Option ((List Int) × Int × Int) := ((rivetref08_Rise l1 (l0.length : Int)).bind fun t5 => ((if t5 = true then (if ([] : List Int).length + l0.length ≤ 35184372088832 then ((loopO (fun (σ : (List Int) × Int × Int) => rivetref08_Pack.b28 l1 σ.1 σ.2.1 σ.2.2) (([] : List Int) ++ l0, 0, 0)).bind fun e => match e with | .ret x => some x | .done e => rivetref08_Pack.j1 e.1 e.2) else none) else some (([] : List Int), 0, 7))))
set_option maxRecDepth 100000 in
set_option maxHeartbeats 4000000 in
theorem rivetref08_Pack.calls (A0 : Option Addr) (c0 : Nat) (l0 : List Int) (A1 : Option Addr) (c1 : Nat) (l1 : List Int) (r : (List Int) × Int × Int) (w0 : World) (hr0 : Rd w0 (eI .u32) A0 c0 l0) (hr1 : Rd w0 (eI .i64) A1 c1 l1) (H : rivetref08_Pack l0 l1 = some r) :
    Calls Try.prog 23 #[.slice A0 l0.length c0, .slice A1 l1.length c1] w0 fun e w' => ∃ A_0 c_0, e = .returned (.tuple #[.slice A_0 r.1.length c_0, .int .i64 r.2.1, .int .i64 r.2.2]) ∧ St [] w0 w' [own 23 (eI .u32) A_0 c_0 r.1] := by
  have hw : St [] w0 w0 [] := St.nil w0
  unfold rivetref08_Pack at H
  refine go_fn Try.func23 rfl 52 Try.ntmps23 [(0, .slice A0 l0.length c0), (1, .slice A1 l1.length c1)] (by kernel_rfl) rfl ?_
  intro a hs
  refine go_seq_k fun K1 hK1 => ?_
  refine go_region ?_
  refine go_pvs 0 3 [0, 1] hs (L' := [(0, .slice A0 l0.length c0), (1, .slice A1 l1.length c1)]) (by kernel_rfl) ?_ rfl
  clear hs; intro a hs
  refine go_end (by kernel_rfl) ?_
  refine hK1 _ _ ?_
  refine go_seq_k fun K2 hK2 => ?_
  refine go_seq_k fun K3 hK3 => ?_
  refine go_region ?_
  refine go_pvs 0 3 [0, 1, 11, 13] hs (L' := [(0, .slice A0 l0.length c0), (1, .slice A1 l1.length c1), (11, .slice A1 l1.length c1), (13, .int .i64 (l0.length : Int))]) (by kernel_rfl) ?_ rfl
  clear hs; intro a hs
  obtain ⟨t5, hx6, H⟩ := bind_some H
  refine go_call hs (op := (Op.call { callee := (Callee.value (Operand.func 40)), args := #[(Operand.tmp 11), (Operand.tmp 13)], argTypes := #[35, 3] })) (ty := 4) (dst := some 14) (g := none) (by kernel_rfl) (by kernel_rfl) (by kernel_rfl) (f := 40) (args := #[.slice A1 l1.length c1, .int .i64 (l0.length : Int)]) (by kernel_rfl) (rivetref08_Rise.calls A1 c1 l1 (l0.length : Int) t5 _ (hr1.old hw) hx6) ?_
  rintro e wd7 ⟨rfl, hw8⟩
  refine ⟨_, rfl, ?_⟩
  replace hw := hw.call hw8
  intro a hs1
  replace hs : Slots a 52 [(0, .slice A0 l0.length c0), (1, .slice A1 l1.length c1), (14, .bool t5)] := hs1.keep [0, 1, 14] (by kernel_rfl)
  clear hs1
  refine go_pvs 4 5 [0, 1, 15] hs (L' := [(0, .slice A0 l0.length c0), (1, .slice A1 l1.length c1), (15, .bool (!t5))]) (by kernel_rfl) ?_ rfl
  clear hs; intro a hs
  refine go_end (by kernel_rfl) ?_
  refine hK3 _ _ ?_
  refine go_cond hs (!t5) (by kernel_rfl) (fun hc => ?_) (fun hc => ?_)
  · replace H := ite_f H (ff (nt hc))
    have hb9 := hc
    rw [hb9] at hs
    refine go_seq_k fun K10 hK10 => ?_
    refine go_region ?_
    refine go_pvs 0 3 [4, 5, 6] hs (L' := [(4, .slice none 0 0), (5, .int .i64 0), (6, .int .i64 7)]) (by kernel_rfl) ?_ rfl
    clear hs; intro a hs
    refine go_end (by kernel_rfl) ?_
    refine hK10 _ _ ?_
    refine wp_ret ?_
    refine th_ret ?_
    obtain rfl := Option.some.inj H
    replace hw := St.own_nil hw 23 (eI .u32)
    refine ret3 (t1 := 4) (v1 := .slice none 0 0) (t2 := 5) (v2 := .int .i64 0) (t3 := 6) (v3 := .int .i64 7) hs (by kernel_rfl) (by kernel_rfl) (by kernel_rfl) (by kernel_rfl) ?_
    exact ⟨none, 0, rfl, hw.only 1⟩
  · replace H := ite_t H (nf hc)
    have hb12 := hc
    rw [hb12] at hs
    refine wp_skip ?_
    refine hK2 _ _ ?_
    refine go_seq_k fun K13 hK13 => ?_
    refine go_region ?_
    obtain ⟨A14, c15, wd16, hx17, hw⟩ := n_lit0 (P := Try.prog) (L := [(0, .slice A0 l0.length c0), (1, .slice A1 l1.length c1), (15, .bool false)]) (t := 22) (ty := 22) (T := 23) hw (eI .u32) (by kernel_rfl) (by kernel_rfl)
    refine go_run hs (op := (Op.buildSlice 22 0 #[])) (ty := 22) (dst := some 16) (g := none) (by kernel_rfl) (by kernel_rfl) (by kernel_rfl) hx17 [0, 1, 16] (L' := [(0, .slice A0 l0.length c0), (1, .slice A1 l1.length c1), (16, .slice A14 ([] : List Int).length c15)]) (by kernel_rfl) ?_
    clear hs; intro a hs
    refine go_pvs 1 2 [1, 16, 17] hs (L' := [(1, .slice A1 l1.length c1), (16, .slice A14 ([] : List Int).length c15), (17, .slice A0 l0.length c0)]) (by kernel_rfl) ?_ rfl
    clear hs; intro a hs
    obtain ⟨hp19, H⟩ := ite_only H
    have hsrc24 : Src Try.prog (eI .u32).sz 22 (.slice A0 l0.length c0) l0.length (l0.flatMap (eI .u32).enc) _ := (Src.of_rd (E := (eI .u32)) (e' := 23) (by kernel_rfl) (hr0.old hw))
    obtain ⟨A20, c21, wd22, hx23, hw⟩ := x_append (P := Try.prog) (L := [(1, .slice A1 l1.length c1), (16, .slice A14 ([] : List Int).length c15), (17, .slice A0 l0.length c0)]) (t := 22) (tx := 22) (ty := 22) (x := (Operand.tmp 16)) (y := (Operand.tmp 17)) (z := .int .u32 0) (bytes := 4) (l2 := l0) hw (by kernel_rfl) (by kernel_rfl) (by kernel_rfl) (by kernel_rfl) (by kernel_rfl) hsrc24 (by omega) (by omega)
    refine go_run hs (op := (Op.call { callee := (Callee.builtin Builtin.append), args := #[(Operand.tmp 16), (Operand.tmp 17)], argTypes := #[22, 22] })) (ty := 22) (dst := some 18) (g := none) (by kernel_rfl) (by kernel_rfl) (by kernel_rfl) hx23 [1, 18] (L' := [(1, .slice A1 l1.length c1), (18, .slice A20 (([] : List Int) ++ l0).length c21)]) (by kernel_rfl) ?_
    clear hs; intro a hs
    refine go_pvs 3 4 [1, 7] hs (L' := [(1, .slice A1 l1.length c1), (7, .slice A20 (([] : List Int) ++ l0).length c21)]) (by kernel_rfl) ?_ rfl
    clear hs; intro a hs
    refine go_end (by kernel_rfl) ?_
    refine hK13 _ _ ?_
    refine go_seq_k fun K25 hK25 => ?_
    refine go_region ?_
    refine go_pvs 0 1 [1, 7, 8] hs (L' := [(1, .slice A1 l1.length c1), (7, .slice A20 (([] : List Int) ++ l0).length c21), (8, .int .i64 0)]) (by kernel_rfl) ?_ rfl
    clear hs; intro a hs
    refine go_end (by kernel_rfl) ?_
    refine hK25 _ _ ?_
    refine go_seq_k fun K26 hK26 => ?_
    refine go_seq_k fun K27 hK27 => ?_
    refine go_region ?_
    refine go_pvs 0 1 [1, 7, 8, 9] hs (L' := [(1, .slice A1 l1.length c1), (7, .slice A20 (([] : List Int) ++ l0).length c21), (8, .int .i64 0), (9, .int .i64 0)]) (by kernel_rfl) ?_ rfl
    clear hs; intro a hs
    refine go_end (by kernel_rfl) ?_
    refine hK27 _ _ ?_
    refine wp_block ?_
    obtain ⟨e28, hl28, HX28⟩ := bind_some H
    have hJ1 : ∀ (l54 : List Int) (v55 : Int) (a : Act) (w : World), Slots a 52 [(7, .slice A20 l54.length c21), (8, .int .i64 v55)] → St [] w0 w [own 23 (eI .u32) A20 c21 l54] → rivetref08_Pack.j1 l54 v55 = some r → K26 a w := by
      intro l54 v55 a w hs hw H
      unfold rivetref08_Pack.j1 at H
      refine hK26 _ _ ?_
      refine go_seq_k fun K56 hK56 => ?_
      refine go_region ?_
      refine go_pvs 0 5 [4, 5, 6] hs (L' := [(4, .slice A20 l54.length c21), (5, .int .i64 v55), (6, .int .i64 0)]) (by kernel_rfl) ?_ rfl
      clear hs; intro a hs
      refine go_end (by kernel_rfl) ?_
      refine hK56 _ _ ?_
      refine wp_ret ?_
      obtain rfl := Option.some.inj H
      refine ret3 (t1 := 4) (v1 := .slice A20 l54.length c21) (t2 := 5) (v2 := .int .i64 v55) (t3 := 6) (v3 := .int .i64 0) hs (by kernel_rfl) (by kernel_rfl) (by kernel_rfl) (by kernel_rfl) ?_
      exact ⟨A20, c21, rfl, hw.only 1⟩
    clear H
    refine go_loop (σ := (List Int) × Int × Int) (fun σ a w => Slots a 52 [(1, .slice A1 l1.length c1), (7, .slice A20 σ.1.length c21), (8, .int .i64 σ.2.1), (9, .int .i64 σ.2.2)] ∧ St [] w0 w [own 23 (eI .u32) A20 c21 σ.1]) hl28 (by exact ⟨hs.keep [1, 7, 8, 9] (by kernel_rfl), hw⟩) ?_
    rintro ⟨l29, v30, v31⟩ a w ⟨hs, hw⟩ o H hr28
    replace hs : Slots a 52 [(1, .slice A1 l1.length c1), (7, .slice A20 l29.length c21), (8, .int .i64 v30), (9, .int .i64 v31)] := hs
    replace hw : St [] w0 w [own 23 (eI .u32) A20 c21 l29] := hw
    replace H : rivetref08_Pack.b28 l1 l29 v30 v31 = some o := H
    unfold rivetref08_Pack.b28 at H
    refine go_seq_k fun K32 hK32 => ?_
    refine go_seq_k fun K33 hK33 => ?_
    refine go_region ?_
    refine go_pvs 0 4 [1, 7, 8, 9, 22] hs (L' := [(1, .slice A1 l1.length c1), (7, .slice A20 l29.length c21), (8, .int .i64 v30), (9, .int .i64 v31), (22, .bool (decide (v31 < (l1.length : Int))))]) (by kernel_rfl) ?_ rfl
    clear hs; intro a hs
    refine go_end (by kernel_rfl) ?_
    refine hK33 _ _ ?_
    refine go_cond hs (decide (v31 < (l1.length : Int))) (by kernel_rfl) (fun hc => ?_) (fun hc => ?_)
    · replace H := ite_t H (of_decide_eq_true hc)
      have hb34 := hc
      rw [hb34] at hs
      refine wp_skip ?_
      refine hK32 _ _ ?_
      refine go_seq_k fun K35 hK35 => ?_
      refine wp_block ?_
      refine go_seq_k fun K36 hK36 => ?_
      refine go_region ?_
      refine go_pvs 0 3 [1, 7, 8, 9, 25, 26, 27] hs (L' := [(1, .slice A1 l1.length c1), (7, .slice A20 l29.length c21), (8, .int .i64 v30), (9, .int .i64 v31), (25, .slice A20 l29.length c21), (26, .slice A1 l1.length c1), (27, .int .i64 v31)]) (by kernel_rfl) ?_ rfl
      clear hs; intro a hs
      obtain ⟨hp37, H⟩ := ite_only H
      obtain ⟨ad38, rfl⟩ := (hr1.old hw).some hp37.1 hp37.2
      refine go_run hs (op := (Op.indexAddr 35 (Operand.tmp 26) (Operand.tmp 27))) (ty := 0) (dst := some 28) (g := none) (by kernel_rfl) (by kernel_rfl) (by kernel_rfl) (x_idx (T := 3) (sz := 1) (a := ad38) (n := l1.length) (cap := c1) (k := .i64) (i := v31) (by kernel_rfl) (by kernel_rfl) (by kernel_rfl) (by kernel_rfl) hp37.1 hp37.2) [1, 7, 8, 9, 25, 28] (L' := [(1, .slice (some ad38) l1.length c1), (7, .slice A20 l29.length c21), (8, .int .i64 v30), (9, .int .i64 v31), (25, .slice A20 l29.length c21), (28, .pointer (some (ad38.add (v31.toNat * 1))))]) (by kernel_rfl) ?_
      clear hs; intro a hs
      refine go_run hs (op := (Op.load 3 (Operand.tmp 28))) (ty := 3) (dst := some 29) (g := none) (by kernel_rfl) (by kernel_rfl) (by kernel_rfl) (x_ld (E := (eI .i64)) (off := 0) (p := ad38.add (v31.toNat * 1)) (v := .int .i64 (ix (eI .i64).d l1 v31)) (hr1.old hw) hp37.1 hp37.2 (by kernel_rfl) rfl (by kernel_rfl) (by kernel_rfl)) [1, 7, 8, 9, 25, 29] (L' := [(1, .slice (some ad38) l1.length c1), (7, .slice A20 l29.length c21), (8, .int .i64 v30), (9, .int .i64 v31), (25, .slice A20 l29.length c21), (29, .int .i64 (ix (eI .i64).d l1 v31))]) (by kernel_rfl) ?_
      clear hs; intro a hs
      obtain ⟨hp39, H⟩ := ite_only H
      obtain ⟨ad40, rfl⟩ := (Rd.of_own (hw.up 0)).some hp39.1 hp39.2
      refine go_run hs (op := (Op.indexAddr 22 (Operand.tmp 25) (Operand.tmp 29))) (ty := 0) (dst := some 30) (g := none) (by kernel_rfl) (by kernel_rfl) (by kernel_rfl) (x_idx (T := 23) (sz := 1) (a := ad40) (n := l29.length) (cap := c21) (k := .i64) (i := (ix (eI .i64).d l1 v31)) (by kernel_rfl) (by kernel_rfl) (by kernel_rfl) (by kernel_rfl) hp39.1 hp39.2) [1, 7, 8, 9, 30] (L' := [(1, .slice (some ad38) l1.length c1), (7, .slice (some ad40) l29.length c21), (8, .int .i64 v30), (9, .int .i64 v31), (30, .pointer (some (ad40.add ((ix (eI .i64).d l1 v31).toNat * 1))))]) (by kernel_rfl) ?_
      clear hs; intro a hs
      refine go_run hs (op := (Op.load 23 (Operand.tmp 30))) (ty := 23) (dst := some 31) (g := none) (by kernel_rfl) (by kernel_rfl) (by kernel_rfl) (x_ld (E := (eI .u32)) (off := 0) (p := ad40.add ((ix (eI .i64).d l1 v31).toNat * 1)) (v := .int .u32 (ix (eI .u32).d l29 (ix (eI .i64).d l1 v31))) (Rd.of_own (hw.up 0)) hp39.1 hp39.2 (by kernel_rfl) rfl (by kernel_rfl) (by kernel_rfl)) [1, 7, 8, 9, 31] (L' := [(1, .slice (some ad38) l1.length c1), (7, .slice (some ad40) l29.length c21), (8, .int .i64 v30), (9, .int .i64 v31), (31, .int .u32 (ix (eI .u32).d l29 (ix (eI .i64).d l1 v31)))]) (by kernel_rfl) ?_
      clear hs; intro a hs
      refine go_pvs 7 8 [1, 7, 8, 9, 10] hs (L' := [(1, .slice (some ad38) l1.length c1), (7, .slice (some ad40) l29.length c21), (8, .int .i64 v30), (9, .int .i64 v31), (10, .int .u32 (ix (eI .u32).d l29 (ix (eI .i64).d l1 v31)))]) (by kernel_rfl) ?_ rfl
      clear hs; intro a hs
      refine go_end (by kernel_rfl) ?_
      refine hK36 _ _ ?_
      refine go_seq_k fun K41 hK41 => ?_
      refine go_seq_k fun K42 hK42 => ?_
      refine go_region ?_
      refine go_pvs 0 2 [1, 7, 8, 9, 10, 33] hs (L' := [(1, .slice (some ad38) l1.length c1), (7, .slice (some ad40) l29.length c21), (8, .int .i64 v30), (9, .int .i64 v31), (10, .int .u32 (ix (eI .u32).d l29 (ix (eI .i64).d l1 v31))), (33, .bool (decide ((ix (eI .u32).d l29 (ix (eI .i64).d l1 v31)) > 65535)))]) (by kernel_rfl) ?_ rfl
      clear hs; intro a hs
      refine go_end (by kernel_rfl) ?_
      refine hK42 _ _ ?_
      refine go_cond hs (decide ((ix (eI .u32).d l29 (ix (eI .i64).d l1 v31)) > 65535)) (by kernel_rfl) (fun hc => ?_) (fun hc => ?_)
      · replace H := ite_t H (of_decide_eq_true hc)
        have hb43 := hc
        rw [hb43] at hs
        refine go_seq_k fun K44 hK44 => ?_
        refine go_region ?_
        refine go_pvs 0 3 [4, 5, 6] hs (L' := [(4, .slice none 0 0), (5, .int .i64 0), (6, .int .i64 8)]) (by kernel_rfl) ?_ rfl
        clear hs; intro a hs
        refine go_end (by kernel_rfl) ?_
        refine hK44 _ _ ?_
        refine wp_ret ?_
        refine th_ret ?_
        refine ib_ret ?_
        refine th_ret ?_
        refine th_ret ?_
        refine ib_ret ?_
        refine th_ret ?_
        rw [← hr28 _ (Option.some.inj H).symm] at HX28
        replace H : some (([] : List Int), 0, 8) = some r := HX28
        obtain rfl := Option.some.inj H
        replace hw := St.own_nil hw 23 (eI .u32)
        refine ret3 (t1 := 4) (v1 := .slice none 0 0) (t2 := 5) (v2 := .int .i64 0) (t3 := 6) (v3 := .int .i64 8) hs (by kernel_rfl) (by kernel_rfl) (by kernel_rfl) (by kernel_rfl) ?_
        exact ⟨none, 0, rfl, hw.only 1⟩
      · replace H := ite_f H (of_decide_eq_false hc)
        have hb46 := hc
        rw [hb46] at hs
        refine wp_skip ?_
        refine hK41 _ _ ?_
        refine go_seq_k fun K47 hK47 => ?_
        refine go_region ?_
        refine go_pvs 0 3 [1, 7, 8, 9, 10, 34, 35, 36] hs (L' := [(1, .slice (some ad38) l1.length c1), (7, .slice (some ad40) l29.length c21), (8, .int .i64 v30), (9, .int .i64 v31), (10, .int .u32 (ix (eI .u32).d l29 (ix (eI .i64).d l1 v31))), (34, .slice (some ad40) l29.length c21), (35, .slice (some ad38) l1.length c1), (36, .int .i64 v31)]) (by kernel_rfl) ?_ rfl
        clear hs; intro a hs
        obtain ⟨hp48, H⟩ := ite_only H
        refine go_run hs (op := (Op.indexAddr 35 (Operand.tmp 35) (Operand.tmp 36))) (ty := 0) (dst := some 37) (g := none) (by kernel_rfl) (by kernel_rfl) (by kernel_rfl) (x_idx (T := 3) (sz := 1) (a := ad38) (n := l1.length) (cap := c1) (k := .i64) (i := v31) (by kernel_rfl) (by kernel_rfl) (by kernel_rfl) (by kernel_rfl) hp48.1 hp48.2) [1, 7, 8, 9, 10, 34, 37] (L' := [(1, .slice (some ad38) l1.length c1), (7, .slice (some ad40) l29.length c21), (8, .int .i64 v30), (9, .int .i64 v31), (10, .int .u32 (ix (eI .u32).d l29 (ix (eI .i64).d l1 v31))), (34, .slice (some ad40) l29.length c21), (37, .pointer (some (ad38.add (v31.toNat * 1))))]) (by kernel_rfl) ?_
        clear hs; intro a hs
        refine go_run hs (op := (Op.load 3 (Operand.tmp 37))) (ty := 3) (dst := some 38) (g := none) (by kernel_rfl) (by kernel_rfl) (by kernel_rfl) (x_ld (E := (eI .i64)) (off := 0) (p := ad38.add (v31.toNat * 1)) (v := .int .i64 (ix (eI .i64).d l1 v31)) (hr1.old hw) hp48.1 hp48.2 (by kernel_rfl) rfl (by kernel_rfl) (by kernel_rfl)) [1, 7, 8, 9, 10, 34, 38] (L' := [(1, .slice (some ad38) l1.length c1), (7, .slice (some ad40) l29.length c21), (8, .int .i64 v30), (9, .int .i64 v31), (10, .int .u32 (ix (eI .u32).d l29 (ix (eI .i64).d l1 v31))), (34, .slice (some ad40) l29.length c21), (38, .int .i64 (ix (eI .i64).d l1 v31))]) (by kernel_rfl) ?_
        clear hs; intro a hs
        refine go_pvs 5 10 [1, 7, 9, 34, 38, 43] hs (L' := [(1, .slice (some ad38) l1.length c1), (7, .slice (some ad40) l29.length c21), (9, .int .i64 v31), (34, .slice (some ad40) l29.length c21), (38, .int .i64 (ix (eI .i64).d l1 v31)), (43, .int .u32 (wu32 ((wu32 ((ix (eI .u32).d l29 (ix (eI .i64).d l1 v31)) * 65536)) + (wu32 v30))))]) (by kernel_rfl) ?_ rfl
        clear hs; intro a hs
        obtain ⟨hp49, H⟩ := ite_only H
        refine go_run hs (op := (Op.indexAddr 22 (Operand.tmp 34) (Operand.tmp 38))) (ty := 0) (dst := some 44) (g := none) (by kernel_rfl) (by kernel_rfl) (by kernel_rfl) (x_idx (T := 23) (sz := 1) (a := ad40) (n := l29.length) (cap := c21) (k := .i64) (i := (ix (eI .i64).d l1 v31)) (by kernel_rfl) (by kernel_rfl) (by kernel_rfl) (by kernel_rfl) hp49.1 hp49.2) [1, 7, 9, 43, 44] (L' := [(1, .slice (some ad38) l1.length c1), (7, .slice (some ad40) l29.length c21), (9, .int .i64 v31), (43, .int .u32 (wu32 ((wu32 ((ix (eI .u32).d l29 (ix (eI .i64).d l1 v31)) * 65536)) + (wu32 v30)))), (44, .pointer (some (ad40.add ((ix (eI .i64).d l1 v31).toNat * 1))))]) (by kernel_rfl) ?_
        clear hs; intro a hs
        obtain ⟨wd50, hx51, hw⟩ := x_put (P := Try.prog) (L := [(1, .slice (some ad38) l1.length c1), (7, .slice (some ad40) l29.length c21), (9, .int .i64 v31), (43, .int .u32 (wu32 ((wu32 ((ix (eI .u32).d l29 (ix (eI .i64).d l1 v31)) * 65536)) + (wu32 v30)))), (44, .pointer (some (ad40.add ((ix (eI .i64).d l1 v31).toNat * 1))))]) (ty := 0) (t := 23) (x := (Operand.tmp 44)) (y := (Operand.tmp 43)) (off := 0) (p := ad40.add ((ix (eI .i64).d l1 v31).toNat * 1)) (v := .int .u32 (wu32 ((wu32 ((ix (eI .u32).d l29 (ix (eI .i64).d l1 v31)) * 65536)) + (wu32 v30)))) (vs := [.int .u32 (wu32 ((wu32 ((ix (eI .u32).d l29 (ix (eI .i64).d l1 v31)) * 65536)) + (wu32 v30)))]) (i := (ix (eI .i64).d l1 v31)) (e' := wu32 ((wu32 ((ix (eI .u32).d l29 (ix (eI .i64).d l1 v31)) * 65536)) + (wu32 v30))) hw rfl hp49.1 hp49.2 (by kernel_rfl) rfl (by kernel_rfl) rfl (by kernel_rfl) (Nat.le_of_ble_eq_true rfl) (by simp [Value.oneCell']) (by kernel_rfl)
        refine go_unit hs (op := (Op.store 23 (Operand.tmp 44) (Operand.tmp 43))) (ty := 0) (dst := none) (g := none) (by kernel_rfl) (by kernel_rfl) (by kernel_rfl) hx51 [1, 7, 9] (L' := [(1, .slice (some ad38) l1.length c1), (7, .slice (some ad40) l29.length c21), (9, .int .i64 v31)]) (by kernel_rfl) ?_
        clear hs; intro a hs
        replace hs : Slots a 52 [(1, .slice (some ad38) l1.length c1), (7, .slice (some ad40) (l29.set ((ix (eI .i64).d l1 v31) : Int).toNat (wu32 ((wu32 ((ix (eI .u32).d l29 (ix (eI .i64).d l1 v31)) * 65536)) + (wu32 v30)))).length c21), (9, .int .i64 v31)] := by rw [List.length_set]; exact hs
        refine go_end (by kernel_rfl) ?_
        refine hK47 _ _ ?_
        refine go_region ?_
        refine go_pvs 0 2 [1, 7, 9, 45, 46] hs (L' := [(1, .slice (some ad38) l1.length c1), (7, .slice (some ad40) (l29.set ((ix (eI .i64).d l1 v31) : Int).toNat (wu32 ((wu32 ((ix (eI .u32).d l29 (ix (eI .i64).d l1 v31)) * 65536)) + (wu32 v30)))).length c21), (9, .int .i64 v31), (45, .slice (some ad38) l1.length c1), (46, .int .i64 v31)]) (by kernel_rfl) ?_ rfl
        clear hs; intro a hs
        obtain ⟨hp52, H⟩ := ite_only H
        refine go_run hs (op := (Op.indexAddr 35 (Operand.tmp 45) (Operand.tmp 46))) (ty := 0) (dst := some 47) (g := none) (by kernel_rfl) (by kernel_rfl) (by kernel_rfl) (x_idx (T := 3) (sz := 1) (a := ad38) (n := l1.length) (cap := c1) (k := .i64) (i := v31) (by kernel_rfl) (by kernel_rfl) (by kernel_rfl) (by kernel_rfl) hp52.1 hp52.2) [1, 7, 9, 47] (L' := [(1, .slice (some ad38) l1.length c1), (7, .slice (some ad40) (l29.set ((ix (eI .i64).d l1 v31) : Int).toNat (wu32 ((wu32 ((ix (eI .u32).d l29 (ix (eI .i64).d l1 v31)) * 65536)) + (wu32 v30)))).length c21), (9, .int .i64 v31), (47, .pointer (some (ad38.add (v31.toNat * 1))))]) (by kernel_rfl) ?_
        clear hs; intro a hs
        refine go_run hs (op := (Op.load 3 (Operand.tmp 47))) (ty := 3) (dst := some 48) (g := none) (by kernel_rfl) (by kernel_rfl) (by kernel_rfl) (x_ld (E := (eI .i64)) (off := 0) (p := ad38.add (v31.toNat * 1)) (v := .int .i64 (ix (eI .i64).d l1 v31)) (hr1.old hw) hp52.1 hp52.2 (by kernel_rfl) rfl (by kernel_rfl) (by kernel_rfl)) [1, 7, 9, 48] (L' := [(1, .slice (some ad38) l1.length c1), (7, .slice (some ad40) (l29.set ((ix (eI .i64).d l1 v31) : Int).toNat (wu32 ((wu32 ((ix (eI .u32).d l29 (ix (eI .i64).d l1 v31)) * 65536)) + (wu32 v30)))).length c21), (9, .int .i64 v31), (48, .int .i64 (ix (eI .i64).d l1 v31))]) (by kernel_rfl) ?_
        clear hs; intro a hs
        refine go_pvs 4 6 [1, 7, 8, 9] hs (L' := [(1, .slice (some ad38) l1.length c1), (7, .slice (some ad40) (l29.set ((ix (eI .i64).d l1 v31) : Int).toNat (wu32 ((wu32 ((ix (eI .u32).d l29 (ix (eI .i64).d l1 v31)) * 65536)) + (wu32 v30)))).length c21), (8, .int .i64 (w64 ((ix (eI .i64).d l1 v31) + 1))), (9, .int .i64 v31)]) (by kernel_rfl) ?_ rfl
        clear hs; intro a hs
        refine go_end (by kernel_rfl) ?_
        refine ib_norm ?_
        refine hK35 _ _ ?_
        refine go_region ?_
        refine go_pvs 0 3 [1, 7, 8, 9] hs (L' := [(1, .slice (some ad38) l1.length c1), (7, .slice (some ad40) (l29.set ((ix (eI .i64).d l1 v31) : Int).toNat (wu32 ((wu32 ((ix (eI .u32).d l29 (ix (eI .i64).d l1 v31)) * 65536)) + (wu32 v30)))).length c21), (8, .int .i64 (w64 ((ix (eI .i64).d l1 v31) + 1))), (9, .int .i64 (w64 (v31 + 1)))]) (by kernel_rfl) ?_ rfl
        clear hs; intro a hs
        refine go_end (by kernel_rfl) ?_
        replace hw := hw.only 1
        exact round_end (l29.set ((ix (eI .i64).d l1 v31) : Int).toNat (wu32 ((wu32 ((ix (eI .u32).d l29 (ix (eI .i64).d l1 v31)) * 65536)) + (wu32 v30))), w64 ((ix (eI .i64).d l1 v31) + 1), w64 (v31 + 1)) (Option.some.inj H).symm ⟨hs.keep [1, 7, 8, 9] (by kernel_rfl), hw⟩
    · replace H := ite_f H (of_decide_eq_false hc)
      have hb53 := hc
      rw [hb53] at hs
      refine wp_exit ?_
      refine th_exit ?_
      refine th_exit ?_
      refine in_block ?_
      replace hw := hw.only 1
      rw [← hr28 _ (Option.some.inj H).symm] at HX28
      exact hJ1 l29 v30 _ _ (hs.keep [7, 8] (by kernel_rfl)) hw HX28

/-! rivet/rivetref08.Unpack: function 25 -/
noncomputable def rivetref08_Unpack.b30 (l31 : List Int) (l32 : List Int) (v35 : Int) : Option ((List Int) × (List Int) × Int ⊕ (Ex ((List Int) × (List Int) × Int) ((List Int) × (List Int)))) := (if v35 > 0 then (if 0 ≤ (w64 (v35 - 1)) ∧ (w64 (v35 - 1)) < (l31.length : Int) then (if (w64 ((ix (eI .u32).d l31 (w64 (v35 - 1))).tmod 65536)) > (w64 (v35 - 1)) then some (.inr (.ret (([] : List Int), ([] : List Int), 10))) else (if 0 ≤ (w64 (v35 - 1)) ∧ (w64 (v35 - 1)) < (l31.length : Int) then (if ([w64 (v35 - 1)] : List Int).length + l32.length ≤ 17592186044416 then some (.inl (l31.set ((w64 (v35 - 1)) : Int).toNat (wu32 ((ix (eI .u32).d l31 (w64 (v35 - 1))).tdiv 65536)), ([w64 (v35 - 1)] : List Int) ++ l32, w64 ((ix (eI .u32).d l31 (w64 (v35 - 1))).tmod 65536))) else none) else none)) else none) else some (.inr (.done (l32, l31))))
noncomputable def rivetref08_Unpack.j3 (l68 : List Int) (l71 : List Int) : Option ((List Int) × (List Int) × Int) := some (l71, l68, 0)
noncomputable def rivetref08_Unpack.j2 (l0 : List Int) (a1 : Int) : Option ((List Int) × (List Int) × Int) := (if ([] : List Int).length + l0.length ≤ 35184372088832 then ((loopO (fun (σ : (List Int) × (List Int) × Int) => rivetref08_Unpack.b30 σ.1 σ.2.1 σ.2.2) (([] : List Int) ++ l0, ([] : List Int), a1)).bind fun e => match e with | .ret x => some x | .done e => rivetref08_Unpack.j3 e.1 e.2) else none)
noncomputable def rivetref08_Unpack.j1 (l0 : List Int) (a1 : Int) (v5 : Bool) : Option ((List Int) × (List Int) × Int) := (if v5 = true then some (([] : List Int), ([] : List Int), 10) else rivetref08_Unpack.j2 l0 a1)
noncomputable def rivetref08_Unpack (l0 : List Int) (a1 : Int) : Option ((List Int) × (List Int) × Int) := (if a1 < 0 then rivetref08_Unpack.j1 l0 a1 true else rivetref08_Unpack.j1 l0 a1 (decide (a1 > (l0.length : Int))))
set_option maxRecDepth 100000 in
set_option maxHeartbeats 4000000 in
theorem rivetref08_Unpack.calls (A0 : Option Addr) (c0 : Nat) (l0 : List Int) (a1 : Int) (r : (List Int) × (List Int) × Int) (w0 : World) (hr0 : Rd w0 (eI .u32) A0 c0 l0) (H : rivetref08_Unpack l0 a1 = some r) :
    Calls Try.prog 25 #[.slice A0 l0.length c0, .int .i64 a1] w0 fun e w' => ∃ A_0 c_0, ∃ A_1 c_1, e = .returned (.tuple #[.slice A_0 r.1.length c_0, .slice A_1 r.2.1.length c_1, .int .i64 r.2.2]) ∧ St [] w0 w' [own 23 (eI .u32) A_0 c_0 r.1, own 3 (eI .i64) A_1 c_1 r.2.1] := by
  have hw : St [] w0 w0 [] := St.nil w0
  unfold rivetref08_Unpack at H
  refine go_fn Try.func25 rfl 50 Try.ntmps25 [(0, .slice A0 l0.length c0), (1, .int .i64 a1)] (by kernel_rfl) rfl ?_
  intro a hs
  refine go_seq_k fun K1 hK1 => ?_
  refine go_region ?_
  refine go_pvs 0 3 [0, 1] hs (L' := [(0, .slice A0 l0.length c0), (1, .int .i64 a1)]) (by kernel_rfl) ?_ rfl
  clear hs; intro a hs
  refine go_end (by kernel_rfl) ?_
  refine hK1 _ _ ?_
  refine go_seq_k fun K2 hK2 => ?_
  have hJ2 : ∀ (a : Act) (w : World), Slots a 50 [(0, .slice A0 l0.length c0), (1, .int .i64 a1)] → St [] w0 w [] → rivetref08_Unpack.j2 l0 a1 = some r → K2 a w := by
    intro a w hs hw H
    unfold rivetref08_Unpack.j2 at H
    refine hK2 _ _ ?_
    refine go_seq_k fun K11 hK11 => ?_
    refine go_region ?_
    obtain ⟨A12, c13, wd14, hx15, hw⟩ := n_lit0 (P := Try.prog) (L := [(0, .slice A0 l0.length c0), (1, .int .i64 a1)]) (t := 22) (ty := 22) (T := 23) hw (eI .u32) (by kernel_rfl) (by kernel_rfl)
    refine go_run hs (op := (Op.buildSlice 22 0 #[])) (ty := 22) (dst := some 20) (g := none) (by kernel_rfl) (by kernel_rfl) (by kernel_rfl) hx15 [0, 1, 20] (L' := [(0, .slice A0 l0.length c0), (1, .int .i64 a1), (20, .slice A12 ([] : List Int).length c13)]) (by kernel_rfl) ?_
    clear hs; intro a hs
    refine go_pvs 1 2 [1, 20, 21] hs (L' := [(1, .int .i64 a1), (20, .slice A12 ([] : List Int).length c13), (21, .slice A0 l0.length c0)]) (by kernel_rfl) ?_ rfl
    clear hs; intro a hs
    obtain ⟨hp17, H⟩ := ite_only H
    have hsrc22 : Src Try.prog (eI .u32).sz 22 (.slice A0 l0.length c0) l0.length (l0.flatMap (eI .u32).enc) _ := (Src.of_rd (E := (eI .u32)) (e' := 23) (by kernel_rfl) (hr0.old hw))
    obtain ⟨A18, c19, wd20, hx21, hw⟩ := x_append (P := Try.prog) (L := [(1, .int .i64 a1), (20, .slice A12 ([] : List Int).length c13), (21, .slice A0 l0.length c0)]) (t := 22) (tx := 22) (ty := 22) (x := (Operand.tmp 20)) (y := (Operand.tmp 21)) (z := .int .u32 0) (bytes := 4) (l2 := l0) hw (by kernel_rfl) (by kernel_rfl) (by kernel_rfl) (by kernel_rfl) (by kernel_rfl) hsrc22 (by omega) (by omega)
    refine go_run hs (op := (Op.call { callee := (Callee.builtin Builtin.append), args := #[(Operand.tmp 20), (Operand.tmp 21)], argTypes := #[22, 22] })) (ty := 22) (dst := some 22) (g := none) (by kernel_rfl) (by kernel_rfl) (by kernel_rfl) hx21 [1, 22] (L' := [(1, .int .i64 a1), (22, .slice A18 (([] : List Int) ++ l0).length c19)]) (by kernel_rfl) ?_
    clear hs; intro a hs
    refine go_pvs 3 4 [1, 7] hs (L' := [(1, .int .i64 a1), (7, .slice A18 (([] : List Int) ++ l0).length c19)]) (by kernel_rfl) ?_ rfl
    clear hs; intro a hs
    refine go_end (by kernel_rfl) ?_
    refine hK11 _ _ ?_
    refine go_seq_k fun K23 hK23 => ?_
    refine go_region ?_
    obtain ⟨A24, c25, wd26, hx27, hw⟩ := n_lit0 (P := Try.prog) (L := [(1, .int .i64 a1), (7, .slice A18 (([] : List Int) ++ l0).length c19)]) (t := 35) (ty := 35) (T := 3) hw (eI .i64) (by kernel_rfl) (by kernel_rfl)
    refine go_run hs (op := (Op.buildSlice 35 0 #[])) (ty := 35) (dst := some 23) (g := none) (by kernel_rfl) (by kernel_rfl) (by kernel_rfl) hx27 [1, 7, 23] (L' := [(1, .int .i64 a1), (7, .slice A18 (([] : List Int) ++ l0).length c19), (23, .slice A24 ([] : List Int).length c25)]) (by kernel_rfl) ?_
    clear hs; intro a hs
    refine go_pvs 1 2 [1, 7, 8] hs (L' := [(1, .int .i64 a1), (7, .slice A18 (([] : List Int) ++ l0).length c19), (8, .slice A24 ([] : List Int).length c25)]) (by kernel_rfl) ?_ rfl
    clear hs; intro a hs
    refine go_end (by kernel_rfl) ?_
    refine hK23 _ _ ?_
    refine go_seq_k fun K29 hK29 => ?_
    refine wp_block ?_
    obtain ⟨e30, hl30, HX30⟩ := bind_some H
    have hJ3 : ∀ (A69 : Option Addr) (c70 : Nat) (l68 : List Int) (l71 : List Int) (a : Act) (w : World), Slots a 50 [(7, .slice A18 l71.length c19), (8, .slice A69 l68.length c70)] → St [] w0 w [own 3 (eI .i64) A69 c70 l68, own 23 (eI .u32) A18 c19 l71] → rivetref08_Unpack.j3 l68 l71 = some r → K29 a w := by
      intro A69 c70 l68 l71 a w hs hw H
      unfold rivetref08_Unpack.j3 at H
      refine hK29 _ _ ?_
      refine go_seq_k fun K72 hK72 => ?_
      refine go_region ?_
      refine go_pvs 0 5 [4, 5, 6] hs (L' := [(4, .slice A18 l71.length c19), (5, .slice A69 l68.length c70), (6, .int .i64 0)]) (by kernel_rfl) ?_ rfl
      clear hs; intro a hs
      refine go_end (by kernel_rfl) ?_
      refine hK72 _ _ ?_
      refine wp_ret ?_
      obtain rfl := Option.some.inj H
      replace hw := hw.up 1
      refine ret3 (t1 := 4) (v1 := .slice A18 l71.length c19) (t2 := 5) (v2 := .slice A69 l68.length c70) (t3 := 6) (v3 := .int .i64 0) hs (by kernel_rfl) (by kernel_rfl) (by kernel_rfl) (by kernel_rfl) ?_
      exact ⟨A18, c19, A69, c70, rfl, hw.only 2⟩
    clear H
    refine go_loop (σ := (List Int) × (List Int) × Int) (fun σ a w => ∃ A33, ∃ c34, Slots a 50 [(1, .int .i64 σ.2.2), (7, .slice A18 σ.1.length c19), (8, .slice A33 σ.2.1.length c34)] ∧ St [] w0 w [own 3 (eI .i64) A33 c34 σ.2.1, own 23 (eI .u32) A18 c19 σ.1]) hl30 (by exact ⟨A24, c25, hs.keep [1, 7, 8] (by kernel_rfl), hw⟩) ?_
    rintro ⟨l31, l32, v35⟩ a w ⟨A33, c34, hs, hw⟩ o H hr30
    replace hs : Slots a 50 [(1, .int .i64 v35), (7, .slice A18 l31.length c19), (8, .slice A33 l32.length c34)] := hs
    replace hw : St [] w0 w [own 3 (eI .i64) A33 c34 l32, own 23 (eI .u32) A18 c19 l31] := hw
    replace H : rivetref08_Unpack.b30 l31 l32 v35 = some o := H
    unfold rivetref08_Unpack.b30 at H
    refine go_seq_k fun K36 hK36 => ?_
    refine go_seq_k fun K37 hK37 => ?_
    refine go_region ?_
    refine go_pvs 0 2 [1, 7, 8, 25] hs (L' := [(1, .int .i64 v35), (7, .slice A18 l31.length c19), (8, .slice A33 l32.length c34), (25, .bool (decide (v35 > 0)))]) (by kernel_rfl) ?_ rfl
    clear hs; intro a hs
    refine go_end (by kernel_rfl) ?_
    refine hK37 _ _ ?_
    refine go_cond hs (decide (v35 > 0)) (by kernel_rfl) (fun hc => ?_) (fun hc => ?_)
    · replace H := ite_t H (of_decide_eq_true hc)
      have hb38 := hc
      rw [hb38] at hs
      refine wp_skip ?_
      refine hK36 _ _ ?_
      refine wp_block ?_
      refine go_seq_k fun K39 hK39 => ?_
      refine go_region ?_
      refine go_pvs 0 3 [7, 8, 9] hs (L' := [(7, .slice A18 l31.length c19), (8, .slice A33 l32.length c34), (9, .int .i64 (w64 (v35 - 1)))]) (by kernel_rfl) ?_ rfl
      clear hs; intro a hs
      refine go_end (by kernel_rfl) ?_
      refine hK39 _ _ ?_
      refine go_seq_k fun K40 hK40 => ?_
      refine go_region ?_
      refine go_pvs 0 2 [7, 8, 9, 28, 29] hs (L' := [(7, .slice A18 l31.length c19), (8, .slice A33 l32.length c34), (9, .int .i64 (w64 (v35 - 1))), (28, .slice A18 l31.length c19), (29, .int .i64 (w64 (v35 - 1)))]) (by kernel_rfl) ?_ rfl
      clear hs; intro a hs
      obtain ⟨hp41, H⟩ := ite_only H
      obtain ⟨ad42, rfl⟩ := (Rd.of_own (hw.up 1)).some hp41.1 hp41.2
      refine go_run hs (op := (Op.indexAddr 22 (Operand.tmp 28) (Operand.tmp 29))) (ty := 0) (dst := some 30) (g := none) (by kernel_rfl) (by kernel_rfl) (by kernel_rfl) (x_idx (T := 23) (sz := 1) (a := ad42) (n := l31.length) (cap := c19) (k := .i64) (i := (w64 (v35 - 1))) (by kernel_rfl) (by kernel_rfl) (by kernel_rfl) (by kernel_rfl) hp41.1 hp41.2) [7, 8, 9, 30] (L' := [(7, .slice (some ad42) l31.length c19), (8, .slice A33 l32.length c34), (9, .int .i64 (w64 (v35 - 1))), (30, .pointer (some (ad42.add ((w64 (v35 - 1)).toNat * 1))))]) (by kernel_rfl) ?_
      clear hs; intro a hs
      refine go_run hs (op := (Op.load 23 (Operand.tmp 30))) (ty := 23) (dst := some 31) (g := none) (by kernel_rfl) (by kernel_rfl) (by kernel_rfl) (x_ld (E := (eI .u32)) (off := 0) (p := ad42.add ((w64 (v35 - 1)).toNat * 1)) (v := .int .u32 (ix (eI .u32).d l31 (w64 (v35 - 1)))) (Rd.of_own (hw.up 1)) hp41.1 hp41.2 (by kernel_rfl) rfl (by kernel_rfl) (by kernel_rfl)) [7, 8, 9, 31] (L' := [(7, .slice (some ad42) l31.length c19), (8, .slice A33 l32.length c34), (9, .int .i64 (w64 (v35 - 1))), (31, .int .u32 (ix (eI .u32).d l31 (w64 (v35 - 1))))]) (by kernel_rfl) ?_
      clear hs; intro a hs
      refine go_pvs 4 5 [7, 8, 9, 10] hs (L' := [(7, .slice (some ad42) l31.length c19), (8, .slice A33 l32.length c34), (9, .int .i64 (w64 (v35 - 1))), (10, .int .u32 (ix (eI .u32).d l31 (w64 (v35 - 1))))]) (by kernel_rfl) ?_ rfl
      clear hs; intro a hs
      refine go_end (by kernel_rfl) ?_
      refine hK40 _ _ ?_
      refine go_seq_k fun K43 hK43 => ?_
      refine go_region ?_
      refine go_pvs 0 4 [7, 8, 9, 10, 11] hs (L' := [(7, .slice (some ad42) l31.length c19), (8, .slice A33 l32.length c34), (9, .int .i64 (w64 (v35 - 1))), (10, .int .u32 (ix (eI .u32).d l31 (w64 (v35 - 1)))), (11, .int .i64 (w64 ((ix (eI .u32).d l31 (w64 (v35 - 1))).tmod 65536)))]) (by kernel_rfl) ?_ rfl
      clear hs; intro a hs
      refine go_end (by kernel_rfl) ?_
      refine hK43 _ _ ?_
      refine go_seq_k fun K44 hK44 => ?_
      refine go_seq_k fun K45 hK45 => ?_
      refine go_region ?_
      refine go_pvs 0 3 [7, 8, 9, 10, 11, 37] hs (L' := [(7, .slice (some ad42) l31.length c19), (8, .slice A33 l32.length c34), (9, .int .i64 (w64 (v35 - 1))), (10, .int .u32 (ix (eI .u32).d l31 (w64 (v35 - 1)))), (11, .int .i64 (w64 ((ix (eI .u32).d l31 (w64 (v35 - 1))).tmod 65536))), (37, .bool (decide ((w64 ((ix (eI .u32).d l31 (w64 (v35 - 1))).tmod 65536)) > (w64 (v35 - 1)))))]) (by kernel_rfl) ?_ rfl
      clear hs; intro a hs
      refine go_end (by kernel_rfl) ?_
      refine hK45 _ _ ?_
      refine go_cond hs (decide ((w64 ((ix (eI .u32).d l31 (w64 (v35 - 1))).tmod 65536)) > (w64 (v35 - 1)))) (by kernel_rfl) (fun hc => ?_) (fun hc => ?_)
      · replace H := ite_t H (of_decide_eq_true hc)
        have hb46 := hc
        rw [hb46] at hs
        refine go_seq_k fun K47 hK47 => ?_
        refine go_region ?_
        refine go_pvs 0 3 [4, 5, 6] hs (L' := [(4, .slice none 0 0), (5, .slice none 0 0), (6, .int .i64 10)]) (by kernel_rfl) ?_ rfl
        clear hs; intro a hs
        refine go_end (by kernel_rfl) ?_
        refine hK47 _ _ ?_
        refine wp_ret ?_
        refine th_ret ?_
        refine ib_ret ?_
        refine th_ret ?_
        refine ib_ret ?_
        refine th_ret ?_
        rw [← hr30 _ (Option.some.inj H).symm] at HX30
        replace H : some (([] : List Int), ([] : List Int), 10) = some r := HX30
        obtain rfl := Option.some.inj H
        replace hw := St.own_nil hw 23 (eI .u32)
        replace hw := St.own_nil hw 3 (eI .i64)
        replace hw := hw.up 1
        refine ret3 (t1 := 4) (v1 := .slice none 0 0) (t2 := 5) (v2 := .slice none 0 0) (t3 := 6) (v3 := .int .i64 10) hs (by kernel_rfl) (by kernel_rfl) (by kernel_rfl) (by kernel_rfl) ?_
        exact ⟨none, 0, none, 0, rfl, hw.only 2⟩
      · replace H := ite_f H (of_decide_eq_false hc)
        have hb50 := hc
        rw [hb50] at hs
        refine wp_skip ?_
        refine hK44 _ _ ?_
        refine go_seq_k fun K51 hK51 => ?_
        refine go_region ?_
        refine go_pvs 0 4 [7, 8, 9, 11, 38, 39, 41] hs (L' := [(7, .slice (some ad42) l31.length c19), (8, .slice A33 l32.length c34), (9, .int .i64 (w64 (v35 - 1))), (11, .int .i64 (w64 ((ix (eI .u32).d l31 (w64 (v35 - 1))).tmod 65536))), (38, .slice (some ad42) l31.length c19), (39, .int .i64 (w64 (v35 - 1))), (41, .int .u32 (wu32 ((ix (eI .u32).d l31 (w64 (v35 - 1))).tdiv 65536)))]) (by kernel_rfl) ?_ rfl
        clear hs; intro a hs
        obtain ⟨hp52, H⟩ := ite_only H
        refine go_run hs (op := (Op.indexAddr 22 (Operand.tmp 38) (Operand.tmp 39))) (ty := 0) (dst := some 42) (g := none) (by kernel_rfl) (by kernel_rfl) (by kernel_rfl) (x_idx (T := 23) (sz := 1) (a := ad42) (n := l31.length) (cap := c19) (k := .i64) (i := (w64 (v35 - 1))) (by kernel_rfl) (by kernel_rfl) (by kernel_rfl) (by kernel_rfl) hp52.1 hp52.2) [7, 8, 9, 11, 41, 42] (L' := [(7, .slice (some ad42) l31.length c19), (8, .slice A33 l32.length c34), (9, .int .i64 (w64 (v35 - 1))), (11, .int .i64 (w64 ((ix (eI .u32).d l31 (w64 (v35 - 1))).tmod 65536))), (41, .int .u32 (wu32 ((ix (eI .u32).d l31 (w64 (v35 - 1))).tdiv 65536))), (42, .pointer (some (ad42.add ((w64 (v35 - 1)).toNat * 1))))]) (by kernel_rfl) ?_
        clear hs; intro a hs
        replace hw := hw.up 1
        obtain ⟨wd53, hx54, hw⟩ := x_put (P := Try.prog) (L := [(7, .slice (some ad42) l31.length c19), (8, .slice A33 l32.length c34), (9, .int .i64 (w64 (v35 - 1))), (11, .int .i64 (w64 ((ix (eI .u32).d l31 (w64 (v35 - 1))).tmod 65536))), (41, .int .u32 (wu32 ((ix (eI .u32).d l31 (w64 (v35 - 1))).tdiv 65536))), (42, .pointer (some (ad42.add ((w64 (v35 - 1)).toNat * 1))))]) (ty := 0) (t := 23) (x := (Operand.tmp 42)) (y := (Operand.tmp 41)) (off := 0) (p := ad42.add ((w64 (v35 - 1)).toNat * 1)) (v := .int .u32 (wu32 ((ix (eI .u32).d l31 (w64 (v35 - 1))).tdiv 65536))) (vs := [.int .u32 (wu32 ((ix (eI .u32).d l31 (w64 (v35 - 1))).tdiv 65536))]) (i := (w64 (v35 - 1))) (e' := wu32 ((ix (eI .u32).d l31 (w64 (v35 - 1))).tdiv 65536)) hw rfl hp52.1 hp52.2 (by kernel_rfl) rfl (by kernel_rfl) rfl (by kernel_rfl) (Nat.le_of_ble_eq_true rfl) (by simp [Value.oneCell']) (by kernel_rfl)
        refine go_unit hs (op := (Op.store 23 (Operand.tmp 42) (Operand.tmp 41))) (ty := 0) (dst := none) (g := none) (by kernel_rfl) (by kernel_rfl) (by kernel_rfl) hx54 [7, 8, 9, 11] (L' := [(7, .slice (some ad42) l31.length c19), (8, .slice A33 l32.length c34), (9, .int .i64 (w64 (v35 - 1))), (11, .int .i64 (w64 ((ix (eI .u32).d l31 (w64 (v35 - 1))).tmod 65536)))]) (by kernel_rfl) ?_
        clear hs; intro a hs
        replace hs : Slots a 50 [(7, .slice (some ad42) (l31.set ((w64 (v35 - 1)) : Int).toNat (wu32 ((ix (eI .u32).d l31 (w64 (v35 - 1))).tdiv 65536))).length c19), (8, .slice A33 l32.length c34), (9, .int .i64 (w64 (v35 - 1))), (11, .int .i64 (w64 ((ix (eI .u32).d l31 (w64 (v35 - 1))).tmod 65536)))] := by rw [List.length_set]; exact hs
        refine go_end (by kernel_rfl) ?_
        refine hK51 _ _ ?_
        refine go_seq_k fun K55 hK55 => ?_
        refine go_region ?_
        refine go_pvs 0 1 [7, 8, 11, 43] hs (L' := [(7, .slice (some ad42) (l31.set ((w64 (v35 - 1)) : Int).toNat (wu32 ((ix (eI .u32).d l31 (w64 (v35 - 1))).tdiv 65536))).length c19), (8, .slice A33 l32.length c34), (11, .int .i64 (w64 ((ix (eI .u32).d l31 (w64 (v35 - 1))).tmod 65536))), (43, .int .i64 (w64 (v35 - 1)))]) (by kernel_rfl) ?_ rfl
        clear hs; intro a hs
        obtain ⟨A56, c57, wd58, hx59, hw⟩ := n_lit (P := Try.prog) (L := [(7, .slice (some ad42) (l31.set ((w64 (v35 - 1)) : Int).toNat (wu32 ((ix (eI .u32).d l31 (w64 (v35 - 1))).tdiv 65536))).length c19), (8, .slice A33 l32.length c34), (11, .int .i64 (w64 ((ix (eI .u32).d l31 (w64 (v35 - 1))).tmod 65536))), (43, .int .i64 (w64 (v35 - 1)))]) (t := 35) (ty := 35) (T := 3) (len := 1) (parts := #[(0, (Operand.tmp 43))]) (z := .int .i64 0) (bytes := 8) (cells := #[.int .i64 (w64 (v35 - 1))]) hw (eI .i64) ([w64 (v35 - 1)] : List Int) (by kernel_rfl) (by kernel_rfl) (by kernel_rfl) (by kernel_rfl) (by kernel_rfl) (by kernel_rfl) (by kernel_rfl)
        refine go_run hs (op := (Op.buildSlice 35 1 #[(0, (Operand.tmp 43))])) (ty := 35) (dst := some 44) (g := none) (by kernel_rfl) (by kernel_rfl) (by kernel_rfl) hx59 [7, 8, 11, 44] (L' := [(7, .slice (some ad42) (l31.set ((w64 (v35 - 1)) : Int).toNat (wu32 ((ix (eI .u32).d l31 (w64 (v35 - 1))).tdiv 65536))).length c19), (8, .slice A33 l32.length c34), (11, .int .i64 (w64 ((ix (eI .u32).d l31 (w64 (v35 - 1))).tmod 65536))), (44, .slice A56 ([w64 (v35 - 1)] : List Int).length c57)]) (by kernel_rfl) ?_
        clear hs; intro a hs
        refine go_pvs 2 3 [7, 11, 44, 45] hs (L' := [(7, .slice (some ad42) (l31.set ((w64 (v35 - 1)) : Int).toNat (wu32 ((ix (eI .u32).d l31 (w64 (v35 - 1))).tdiv 65536))).length c19), (11, .int .i64 (w64 ((ix (eI .u32).d l31 (w64 (v35 - 1))).tmod 65536))), (44, .slice A56 ([w64 (v35 - 1)] : List Int).length c57), (45, .slice A33 l32.length c34)]) (by kernel_rfl) ?_ rfl
        clear hs; intro a hs
        obtain ⟨hp61, H⟩ := ite_only H
        have hsrc66 : Src Try.prog (eI .i64).sz 35 (.slice A33 l32.length c34) l32.length (l32.flatMap (eI .i64).enc) _ := (Src.of_rd (E := (eI .i64)) (e' := 3) (by kernel_rfl) (Rd.of_own (hw.up 2)))
        obtain ⟨A62, c63, wd64, hx65, hw⟩ := x_append (P := Try.prog) (L := [(7, .slice (some ad42) (l31.set ((w64 (v35 - 1)) : Int).toNat (wu32 ((ix (eI .u32).d l31 (w64 (v35 - 1))).tdiv 65536))).length c19), (11, .int .i64 (w64 ((ix (eI .u32).d l31 (w64 (v35 - 1))).tmod 65536))), (44, .slice A56 ([w64 (v35 - 1)] : List Int).length c57), (45, .slice A33 l32.length c34)]) (t := 35) (tx := 35) (ty := 35) (x := (Operand.tmp 44)) (y := (Operand.tmp 45)) (z := .int .i64 0) (bytes := 8) (l2 := l32) hw (by kernel_rfl) (by kernel_rfl) (by kernel_rfl) (by kernel_rfl) (by kernel_rfl) hsrc66 (by omega) (by omega)
        refine go_run hs (op := (Op.call { callee := (Callee.builtin Builtin.append), args := #[(Operand.tmp 44), (Operand.tmp 45)], argTypes := #[35, 35] })) (ty := 35) (dst := some 46) (g := none) (by kernel_rfl) (by kernel_rfl) (by kernel_rfl) hx65 [7, 11, 46] (L' := [(7, .slice (some ad42) (l31.set ((w64 (v35 - 1)) : Int).toNat (wu32 ((ix (eI .u32).d l31 (w64 (v35 - 1))).tdiv 65536))).length c19), (11, .int .i64 (w64 ((ix (eI .u32).d l31 (w64 (v35 - 1))).tmod 65536))), (46, .slice A62 (([w64 (v35 - 1)] : List Int) ++ l32).length c63)]) (by kernel_rfl) ?_
        clear hs; intro a hs
        refine go_pvs 4 5 [7, 8, 11] hs (L' := [(7, .slice (some ad42) (l31.set ((w64 (v35 - 1)) : Int).toNat (wu32 ((ix (eI .u32).d l31 (w64 (v35 - 1))).tdiv 65536))).length c19), (8, .slice A62 (([w64 (v35 - 1)] : List Int) ++ l32).length c63), (11, .int .i64 (w64 ((ix (eI .u32).d l31 (w64 (v35 - 1))).tmod 65536)))]) (by kernel_rfl) ?_ rfl
        clear hs; intro a hs
        refine go_end (by kernel_rfl) ?_
        refine hK55 _ _ ?_
        refine go_region ?_
        refine go_pvs 0 2 [1, 7, 8] hs (L' := [(1, .int .i64 (w64 ((ix (eI .u32).d l31 (w64 (v35 - 1))).tmod 65536))), (7, .slice (some ad42) (l31.set ((w64 (v35 - 1)) : Int).toNat (wu32 ((ix (eI .u32).d l31 (w64 (v35 - 1))).tdiv 65536))).length c19), (8, .slice A62 (([w64 (v35 - 1)] : List Int) ++ l32).length c63)]) (by kernel_rfl) ?_ rfl
        clear hs; intro a hs
        refine go_end (by kernel_rfl) ?_
        refine ib_norm ?_
        replace hw := hw.up 1
        replace hw := hw.up 1
        replace hw := hw.only 2
        exact round_end (l31.set ((w64 (v35 - 1)) : Int).toNat (wu32 ((ix (eI .u32).d l31 (w64 (v35 - 1))).tdiv 65536)), ([w64 (v35 - 1)] : List Int) ++ l32, w64 ((ix (eI .u32).d l31 (w64 (v35 - 1))).tmod 65536)) (Option.some.inj H).symm ⟨A62, c63, hs.keep [1, 7, 8] (by kernel_rfl), hw⟩
    · replace H := ite_f H (of_decide_eq_false hc)
      have hb67 := hc
      rw [hb67] at hs
      refine wp_exit ?_
      refine th_exit ?_
      refine th_exit ?_
      refine in_block ?_
      replace hw := hw.up 1
      replace hw := hw.up 1
      replace hw := hw.only 2
      rw [← hr30 _ (Option.some.inj H).symm] at HX30
      exact hJ3 A33 c34 l32 l31 _ _ (hs.keep [7, 8] (by kernel_rfl)) hw HX30
  refine go_seq_k fun K3 hK3 => ?_
  have hJ1 : ∀ (v5 : Bool) (a : Act) (w : World), Slots a 50 [(0, .slice A0 l0.length c0), (1, .int .i64 a1), (19, .bool v5)] → St [] w0 w [] → rivetref08_Unpack.j1 l0 a1 v5 = some r → K3 a w := by
    intro v5 a w hs hw H
    unfold rivetref08_Unpack.j1 at H
    refine hK3 _ _ ?_
    refine go_cond hs v5 (by kernel_rfl) (fun hc => ?_) (fun hc => ?_)
    · replace H := ite_t H hc
      have hb6 := hc
      rw [hb6] at hs
      refine go_seq_k fun K7 hK7 => ?_
      refine go_region ?_
      refine go_pvs 0 3 [4, 5, 6] hs (L' := [(4, .slice none 0 0), (5, .slice none 0 0), (6, .int .i64 10)]) (by kernel_rfl) ?_ rfl
      clear hs; intro a hs
      refine go_end (by kernel_rfl) ?_
      refine hK7 _ _ ?_
      refine wp_ret ?_
      refine th_ret ?_
      obtain rfl := Option.some.inj H
      replace hw := St.own_nil hw 23 (eI .u32)
      replace hw := St.own_nil hw 3 (eI .i64)
      replace hw := hw.up 1
      refine ret3 (t1 := 4) (v1 := .slice none 0 0) (t2 := 5) (v2 := .slice none 0 0) (t3 := 6) (v3 := .int .i64 10) hs (by kernel_rfl) (by kernel_rfl) (by kernel_rfl) (by kernel_rfl) ?_
      exact ⟨none, 0, none, 0, rfl, hw.only 2⟩
    · replace H := ite_f H (ff hc)
      have hb10 := hc
      rw [hb10] at hs
      refine wp_skip ?_
      replace hw := hw.only 0
      exact hJ2 _ _ (hs.keep [0, 1] (by kernel_rfl)) hw H
  refine go_region ?_
  refine go_pvs 0 3 [0, 1, 14] hs (L' := [(0, .slice A0 l0.length c0), (1, .int .i64 a1), (14, .bool (decide (a1 < 0)))]) (by kernel_rfl) ?_ rfl
  clear hs; intro a hs
  cases hb4 : (decide (a1 < 0))
  · replace H := ite_f H (of_decide_eq_false hb4)
    rw [hb4] at hs
    refine go_pvs 3 8 [0, 1, 19] hs (L' := [(0, .slice A0 l0.length c0), (1, .int .i64 a1), (19, .bool (decide (a1 > (l0.length : Int))))]) (by kernel_rfl) ?_ rfl
    clear hs; intro a hs
    refine go_end (by kernel_rfl) ?_
    replace hw := hw.only 0
    exact hJ1 (decide (a1 > (l0.length : Int))) _ _ (hs.keep [0, 1, 19] (by kernel_rfl)) hw H
  · replace H := ite_t H (of_decide_eq_true hb4)
    rw [hb4] at hs
    refine go_pvs 3 8 [0, 1, 19] hs (L' := [(0, .slice A0 l0.length c0), (1, .int .i64 a1), (19, .bool true)]) (by kernel_rfl) ?_ rfl
    clear hs; intro a hs
    refine go_end (by kernel_rfl) ?_
    replace hw := hw.only 0
    exact hJ1 true _ _ (hs.keep [0, 1, 19] (by kernel_rfl)) hw H

/-! rivet/chain.Pack: function 20 -/
noncomputable def chain_Pack.j3 (v7 : Int) (v24 : Int) : Option (Int × Int ⊕ (Ex ((List Int) × Int × Int) Unit)) := some (.inl (v24, w64 (v7 + 1)))
noncomputable def chain_Pack.j2 (v7 : Int) (l1 : List Int) : Option (Int × Int ⊕ (Ex ((List Int) × Int × Int) Unit)) := chain_Pack.j3 v7 (ix (eI .i64).d l1 v7)
noncomputable def chain_Pack.j1 (v7 : Int) (l1 : List Int) (v19 : Bool) : Option (Int × Int ⊕ (Ex ((List Int) × Int × Int) Unit)) := (if v19 = true then some (.inr (.ret (([] : List Int), 0, 7))) else chain_Pack.j2 v7 l1)
noncomputable def chain_Pack.j5 (l63 : List Int) (v64 : Int) : Option ((List Int) × Int × Int) := some (l63, v64, 0)
noncomputable def chain_Pack.b38 (l1 : List Int) (l39 : List Int) (v40 : Int) (v41 : Int) : Option ((List Int) × Int × Int ⊕ (Ex ((List Int) × Int × Int) ((List Int) × Int))) := (if v41 < (l1.length : Int) then (if 0 ≤ v41 ∧ v41 < (l1.length : Int) then (if 0 ≤ (ix (eI .i64).d l1 v41) ∧ (ix (eI .i64).d l1 v41) < (l39.length : Int) then (if (ix (eI .u32).d l39 (ix (eI .i64).d l1 v41)) > 65535 then some (.inr (.ret (([] : List Int), 0, 8))) else (if 0 ≤ (ix (eI .i64).d l1 v41) ∧ (ix (eI .i64).d l1 v41) < (l39.length : Int) then (if 0 ≤ (ix (eI .i64).d l1 v41) ∧ (ix (eI .i64).d l1 v41) < (l39.length : Int) then some (.inl (l39.set ((ix (eI .i64).d l1 v41) : Int).toNat (bor .u32 (wu32 ((ix (eI .u32).d l39 (ix (eI .i64).d l1 v41)) * 2 ^ 16)) (wu32 v40)), w64 ((ix (eI .i64).d l1 v41) + 1), w64 (v41 + 1))) else none) else none)) else none) else none) else some (.inr (.done (l39, v40))))
noncomputable def chain_Pack.j4 (l0 : List Int) (l1 : List Int) : Option ((List Int) × Int × Int) := ((slices_Clone_uint32_uint32 l0).bind fun t28 => (((loopO (fun (σ : (List Int) × Int × Int) => chain_Pack.b38 l1 σ.1 σ.2.1 σ.2.2) (t28, 0, 0)).bind fun e => match e with | .ret x => some x | .done e => chain_Pack.j5 e.1 e.2)))
noncomputable def chain_Pack.b5 (l1 : List Int) (l0 : List Int) (v6 : Int) (v7 : Int) : Option (Int × Int ⊕ (Ex ((List Int) × Int × Int) Unit)) := (if v7 < (l1.length : Int) then (if 0 ≤ v7 ∧ v7 < (l1.length : Int) then (if (ix (eI .i64).d l1 v7) ≤ v6 then chain_Pack.j1 v7 l1 true else (if (ix (eI .i64).d l1 v7) ≥ (l0.length : Int) then chain_Pack.j1 v7 l1 true else chain_Pack.j1 v7 l1 (decide ((ix (eI .i64).d l1 v7) > 65534)))) else none) else some (.inr (.done ())))
noncomputable def chain_Pack (l0 : List Int) (l1 : List Int) : Option ((List Int) × Int × Int) := ((loopO (fun (σ : Int × Int) => chain_Pack.b5 l1 l0 σ.1 σ.2) ((-1), 0)).bind fun e => match e with | .ret x => some x | .done e => chain_Pack.j4 l0 l1)
set_option maxRecDepth 100000 in
set_option maxHeartbeats 4000000 in
theorem chain_Pack.calls (A0 : Option Addr) (c0 : Nat) (l0 : List Int) (A1 : Option Addr) (c1 : Nat) (l1 : List Int) (r : (List Int) × Int × Int) (w0 : World) (hr0 : Rd w0 (eI .u32) A0 c0 l0) (hr1 : Rd w0 (eI .i64) A1 c1 l1) (H : chain_Pack l0 l1 = some r) :
    Calls Try.prog 20 #[.slice A0 l0.length c0, .slice A1 l1.length c1] w0 fun e w' => ∃ A_0 c_0, e = .returned (.tuple #[.slice A_0 r.1.length c_0, .int .i64 r.2.1, .int .i64 r.2.2]) ∧ St [] w0 w' [own 23 (eI .u32) A_0 c_0 r.1] := by
  have hw : St [] w0 w0 [] := St.nil w0
  unfold chain_Pack at H
  refine go_fn Try.func20 rfl 64 Try.ntmps20 [(0, .slice A0 l0.length c0), (1, .slice A1 l1.length c1)] (by kernel_rfl) rfl ?_
  intro a hs
  refine go_seq_k fun K1 hK1 => ?_
  refine go_region ?_
  refine go_pvs 0 3 [0, 1] hs (L' := [(0, .slice A0 l0.length c0), (1, .slice A1 l1.length c1)]) (by kernel_rfl) ?_ rfl
  clear hs; intro a hs
  refine go_end (by kernel_rfl) ?_
  refine hK1 _ _ ?_
  refine go_seq_k fun K2 hK2 => ?_
  refine go_region ?_
  refine go_pvs 0 1 [0, 1, 7] hs (L' := [(0, .slice A0 l0.length c0), (1, .slice A1 l1.length c1), (7, .int .i64 (-1))]) (by kernel_rfl) ?_ rfl
  clear hs; intro a hs
  refine go_end (by kernel_rfl) ?_
  refine hK2 _ _ ?_
  refine go_seq_k fun K3 hK3 => ?_
  refine go_seq_k fun K4 hK4 => ?_
  refine go_region ?_
  refine go_pvs 0 3 [0, 1, 7, 14, 15, 16] hs (L' := [(0, .slice A0 l0.length c0), (1, .slice A1 l1.length c1), (7, .int .i64 (-1)), (14, .slice A1 l1.length c1), (15, .int .i64 (l1.length : Int)), (16, .int .i64 0)]) (by kernel_rfl) ?_ rfl
  clear hs; intro a hs
  refine go_end (by kernel_rfl) ?_
  refine hK4 _ _ ?_
  refine wp_block ?_
  obtain ⟨e5, hl5, HX5⟩ := bind_some H
  have hJ4 : ∀ (a : Act) (w : World), Slots a 64 [(0, .slice A0 l0.length c0), (1, .slice A1 l1.length c1)] → St [] w0 w [] → chain_Pack.j4 l0 l1 = some r → K3 a w := by
    intro a w hs hw H
    unfold chain_Pack.j4 at H
    refine hK3 _ _ ?_
    refine go_seq_k fun K26 hK26 => ?_
    refine go_region ?_
    refine go_pvs 0 1 [1, 35] hs (L' := [(1, .slice A1 l1.length c1), (35, .slice A0 l0.length c0)]) (by kernel_rfl) ?_ rfl
    clear hs; intro a hs
    obtain ⟨t28, hx29, H⟩ := bind_some H
    refine go_call hs (op := (Op.call { callee := (Callee.value (Operand.func 39)), args := #[(Operand.tmp 35)], argTypes := #[22] })) (ty := 22) (dst := some 36) (g := none) (by kernel_rfl) (by kernel_rfl) (by kernel_rfl) (f := 39) (args := #[.slice A0 l0.length c0]) (by kernel_rfl) (slices_Clone_uint32_uint32.calls A0 c0 l0 t28 _ (hr0.old hw) hx29) ?_
    rintro e wd32 ⟨A30, c31, rfl, hw33⟩
    refine ⟨_, rfl, ?_⟩
    replace hw := hw.call hw33
    intro a hs1
    replace hs : Slots a 64 [(1, .slice A1 l1.length c1), (36, .slice A30 t28.length c31)] := hs1.keep [1, 36] (by kernel_rfl)
    clear hs1
    refine go_pvs 2 3 [1, 10] hs (L' := [(1, .slice A1 l1.length c1), (10, .slice A30 t28.length c31)]) (by kernel_rfl) ?_ rfl
    clear hs; intro a hs
    refine go_end (by kernel_rfl) ?_
    refine hK26 _ _ ?_
    refine go_seq_k fun K35 hK35 => ?_
    refine go_region ?_
    refine go_pvs 0 1 [1, 10, 11] hs (L' := [(1, .slice A1 l1.length c1), (10, .slice A30 t28.length c31), (11, .int .i64 0)]) (by kernel_rfl) ?_ rfl
    clear hs; intro a hs
    refine go_end (by kernel_rfl) ?_
    refine hK35 _ _ ?_
    refine go_seq_k fun K36 hK36 => ?_
    refine go_seq_k fun K37 hK37 => ?_
    refine go_region ?_
    refine go_pvs 0 3 [10, 11, 37, 38, 39] hs (L' := [(10, .slice A30 t28.length c31), (11, .int .i64 0), (37, .slice A1 l1.length c1), (38, .int .i64 (l1.length : Int)), (39, .int .i64 0)]) (by kernel_rfl) ?_ rfl
    clear hs; intro a hs
    refine go_end (by kernel_rfl) ?_
    refine hK37 _ _ ?_
    refine wp_block ?_
    obtain ⟨e38, hl38, HX38⟩ := bind_some H
    have hJ5 : ∀ (l63 : List Int) (v64 : Int) (a : Act) (w : World), Slots a 64 [(10, .slice A30 l63.length c31), (11, .int .i64 v64)] → St [] w0 w [own 23 (eI .u32) A30 c31 l63] → chain_Pack.j5 l63 v64 = some r → K36 a w := by
      intro l63 v64 a w hs hw H
      unfold chain_Pack.j5 at H
      refine hK36 _ _ ?_
      refine go_seq_k fun K65 hK65 => ?_
      refine go_region ?_
      refine go_pvs 0 5 [4, 5, 6] hs (L' := [(4, .slice A30 l63.length c31), (5, .int .i64 v64), (6, .int .i64 0)]) (by kernel_rfl) ?_ rfl
      clear hs; intro a hs
      refine go_end (by kernel_rfl) ?_
      refine hK65 _ _ ?_
      refine wp_ret ?_
      obtain rfl := Option.some.inj H
      refine ret3 (t1 := 4) (v1 := .slice A30 l63.length c31) (t2 := 5) (v2 := .int .i64 v64) (t3 := 6) (v3 := .int .i64 0) hs (by kernel_rfl) (by kernel_rfl) (by kernel_rfl) (by kernel_rfl) ?_
      exact ⟨A30, c31, rfl, hw.only 1⟩
    clear H
    refine go_loop (σ := (List Int) × Int × Int) (fun σ a w => Slots a 64 [(10, .slice A30 σ.1.length c31), (11, .int .i64 σ.2.1), (37, .slice A1 l1.length c1), (38, .int .i64 (l1.length : Int)), (39, .int .i64 σ.2.2)] ∧ St [] w0 w [own 23 (eI .u32) A30 c31 σ.1]) hl38 (by exact ⟨hs.keep [10, 11, 37, 38, 39] (by kernel_rfl), hw⟩) ?_
    rintro ⟨l39, v40, v41⟩ a w ⟨hs, hw⟩ o H hr38
    replace hs : Slots a 64 [(10, .slice A30 l39.length c31), (11, .int .i64 v40), (37, .slice A1 l1.length c1), (38, .int .i64 (l1.length : Int)), (39, .int .i64 v41)] := hs
    replace hw : St [] w0 w [own 23 (eI .u32) A30 c31 l39] := hw
    replace H : chain_Pack.b38 l1 l39 v40 v41 = some o := H
    unfold chain_Pack.b38 at H
    refine go_seq_k fun K42 hK42 => ?_
    refine go_region ?_
    refine go_pvs 0 1 [10, 11, 37, 38, 39, 40] hs (L' := [(10, .slice A30 l39.length c31), (11, .int .i64 v40), (37, .slice A1 l1.length c1), (38, .int .i64 (l1.length : Int)), (39, .int .i64 v41), (40, .bool (decide (v41 < (l1.length : Int))))]) (by kernel_rfl) ?_ rfl
    clear hs; intro a hs
    refine go_end (by kernel_rfl) ?_
    refine hK42 _ _ ?_
    refine go_seq_k fun K43 hK43 => ?_
    refine go_cond hs (decide (v41 < (l1.length : Int))) (by kernel_rfl) (fun hc => ?_) (fun hc => ?_)
    · replace H := ite_t H (of_decide_eq_true hc)
      have hb44 := hc
      rw [hb44] at hs
      refine wp_skip ?_
      refine hK43 _ _ ?_
      refine go_seq_k fun K45 hK45 => ?_
      refine wp_block ?_
      refine go_seq_k fun K46 hK46 => ?_
      refine go_region ?_
      obtain ⟨hp47, H⟩ := ite_only H
      obtain ⟨ad48, rfl⟩ := (hr1.old hw).some hp47.1 hp47.2
      refine go_run hs (op := (Op.indexAddr 35 (Operand.tmp 37) (Operand.tmp 39))) (ty := 0) (dst := some 41) (g := none) (by kernel_rfl) (by kernel_rfl) (by kernel_rfl) (x_idx (T := 3) (sz := 1) (a := ad48) (n := l1.length) (cap := c1) (k := .i64) (i := v41) (by kernel_rfl) (by kernel_rfl) (by kernel_rfl) (by kernel_rfl) hp47.1 hp47.2) [10, 11, 37, 38, 39, 41] (L' := [(10, .slice A30 l39.length c31), (11, .int .i64 v40), (37, .slice (some ad48) l1.length c1), (38, .int .i64 (l1.length : Int)), (39, .int .i64 v41), (41, .pointer (some (ad48.add (v41.toNat * 1))))]) (by kernel_rfl) ?_
      clear hs; intro a hs
      refine go_run hs (op := (Op.load 3 (Operand.tmp 41))) (ty := 3) (dst := some 42) (g := none) (by kernel_rfl) (by kernel_rfl) (by kernel_rfl) (x_ld (E := (eI .i64)) (off := 0) (p := ad48.add (v41.toNat * 1)) (v := .int .i64 (ix (eI .i64).d l1 v41)) (hr1.old hw) hp47.1 hp47.2 (by kernel_rfl) rfl (by kernel_rfl) (by kernel_rfl)) [10, 11, 37, 38, 39, 42] (L' := [(10, .slice A30 l39.length c31), (11, .int .i64 v40), (37, .slice (some ad48) l1.length c1), (38, .int .i64 (l1.length : Int)), (39, .int .i64 v41), (42, .int .i64 (ix (eI .i64).d l1 v41))]) (by kernel_rfl) ?_
      clear hs; intro a hs
      refine go_pvs 2 3 [10, 11, 13, 37, 38, 39] hs (L' := [(10, .slice A30 l39.length c31), (11, .int .i64 v40), (13, .int .i64 (ix (eI .i64).d l1 v41)), (37, .slice (some ad48) l1.length c1), (38, .int .i64 (l1.length : Int)), (39, .int .i64 v41)]) (by kernel_rfl) ?_ rfl
      clear hs; intro a hs
      refine go_end (by kernel_rfl) ?_
      refine hK46 _ _ ?_
      refine go_seq_k fun K49 hK49 => ?_
      refine go_seq_k fun K50 hK50 => ?_
      refine go_region ?_
      refine go_pvs 0 2 [10, 11, 13, 37, 38, 39, 43, 44] hs (L' := [(10, .slice A30 l39.length c31), (11, .int .i64 v40), (13, .int .i64 (ix (eI .i64).d l1 v41)), (37, .slice (some ad48) l1.length c1), (38, .int .i64 (l1.length : Int)), (39, .int .i64 v41), (43, .slice A30 l39.length c31), (44, .int .i64 (ix (eI .i64).d l1 v41))]) (by kernel_rfl) ?_ rfl
      clear hs; intro a hs
      obtain ⟨hp51, H⟩ := ite_only H
      obtain ⟨ad52, rfl⟩ := (Rd.of_own (hw.up 0)).some hp51.1 hp51.2
      refine go_run hs (op := (Op.indexAddr 22 (Operand.tmp 43) (Operand.tmp 44))) (ty := 0) (dst := some 45) (g := none) (by kernel_rfl) (by kernel_rfl) (by kernel_rfl) (x_idx (T := 23) (sz := 1) (a := ad52) (n := l39.length) (cap := c31) (k := .i64) (i := (ix (eI .i64).d l1 v41)) (by kernel_rfl) (by kernel_rfl) (by kernel_rfl) (by kernel_rfl) hp51.1 hp51.2) [10, 11, 13, 37, 38, 39, 45] (L' := [(10, .slice (some ad52) l39.length c31), (11, .int .i64 v40), (13, .int .i64 (ix (eI .i64).d l1 v41)), (37, .slice (some ad48) l1.length c1), (38, .int .i64 (l1.length : Int)), (39, .int .i64 v41), (45, .pointer (some (ad52.add ((ix (eI .i64).d l1 v41).toNat * 1))))]) (by kernel_rfl) ?_
      clear hs; intro a hs
      refine go_run hs (op := (Op.load 23 (Operand.tmp 45))) (ty := 23) (dst := some 46) (g := none) (by kernel_rfl) (by kernel_rfl) (by kernel_rfl) (x_ld (E := (eI .u32)) (off := 0) (p := ad52.add ((ix (eI .i64).d l1 v41).toNat * 1)) (v := .int .u32 (ix (eI .u32).d l39 (ix (eI .i64).d l1 v41))) (Rd.of_own (hw.up 0)) hp51.1 hp51.2 (by kernel_rfl) rfl (by kernel_rfl) (by kernel_rfl)) [10, 11, 13, 37, 38, 39, 46] (L' := [(10, .slice (some ad52) l39.length c31), (11, .int .i64 v40), (13, .int .i64 (ix (eI .i64).d l1 v41)), (37, .slice (some ad48) l1.length c1), (38, .int .i64 (l1.length : Int)), (39, .int .i64 v41), (46, .int .u32 (ix (eI .u32).d l39 (ix (eI .i64).d l1 v41)))]) (by kernel_rfl) ?_
      clear hs; intro a hs
      refine go_pvs 4 5 [10, 11, 13, 37, 38, 39, 47] hs (L' := [(10, .slice (some ad52) l39.length c31), (11, .int .i64 v40), (13, .int .i64 (ix (eI .i64).d l1 v41)), (37, .slice (some ad48) l1.length c1), (38, .int .i64 (l1.length : Int)), (39, .int .i64 v41), (47, .bool (decide ((ix (eI .u32).d l39 (ix (eI .i64).d l1 v41)) > 65535)))]) (by kernel_rfl) ?_ rfl
      clear hs; intro a hs
      refine go_end (by kernel_rfl) ?_
      refine hK50 _ _ ?_
      refine go_cond hs (decide ((ix (eI .u32).d l39 (ix (eI .i64).d l1 v41)) > 65535)) (by kernel_rfl) (fun hc => ?_) (fun hc => ?_)
      · replace H := ite_t H (of_decide_eq_true hc)
        have hb53 := hc
        rw [hb53] at hs
        refine go_seq_k fun K54 hK54 => ?_
        refine go_region ?_
        refine go_pvs 0 3 [4, 5, 6] hs (L' := [(4, .slice none 0 0), (5, .int .i64 0), (6, .int .i64 8)]) (by kernel_rfl) ?_ rfl
        clear hs; intro a hs
        refine go_end (by kernel_rfl) ?_
        refine hK54 _ _ ?_
        refine wp_ret ?_
        refine th_ret ?_
        refine ib_ret ?_
        refine th_ret ?_
        refine th_ret ?_
        refine ib_ret ?_
        refine th_ret ?_
        rw [← hr38 _ (Option.some.inj H).symm] at HX38
        replace H : some (([] : List Int), 0, 8) = some r := HX38
        obtain rfl := Option.some.inj H
        replace hw := St.own_nil hw 23 (eI .u32)
        refine ret3 (t1 := 4) (v1 := .slice none 0 0) (t2 := 5) (v2 := .int .i64 0) (t3 := 6) (v3 := .int .i64 8) hs (by kernel_rfl) (by kernel_rfl) (by kernel_rfl) (by kernel_rfl) ?_
        exact ⟨none, 0, rfl, hw.only 1⟩
      · replace H := ite_f H (of_decide_eq_false hc)
        have hb56 := hc
        rw [hb56] at hs
        refine wp_skip ?_
        refine hK49 _ _ ?_
        refine go_seq_k fun K57 hK57 => ?_
        refine go_region ?_
        refine go_pvs 0 4 [10, 11, 13, 37, 38, 39, 48, 49, 50, 51] hs (L' := [(10, .slice (some ad52) l39.length c31), (11, .int .i64 v40), (13, .int .i64 (ix (eI .i64).d l1 v41)), (37, .slice (some ad48) l1.length c1), (38, .int .i64 (l1.length : Int)), (39, .int .i64 v41), (48, .slice (some ad52) l39.length c31), (49, .int .i64 (ix (eI .i64).d l1 v41)), (50, .slice (some ad52) l39.length c31), (51, .int .i64 (ix (eI .i64).d l1 v41))]) (by kernel_rfl) ?_ rfl
        clear hs; intro a hs
        obtain ⟨hp58, H⟩ := ite_only H
        refine go_run hs (op := (Op.indexAddr 22 (Operand.tmp 50) (Operand.tmp 51))) (ty := 0) (dst := some 52) (g := none) (by kernel_rfl) (by kernel_rfl) (by kernel_rfl) (x_idx (T := 23) (sz := 1) (a := ad52) (n := l39.length) (cap := c31) (k := .i64) (i := (ix (eI .i64).d l1 v41)) (by kernel_rfl) (by kernel_rfl) (by kernel_rfl) (by kernel_rfl) hp58.1 hp58.2) [10, 11, 13, 37, 38, 39, 48, 49, 52] (L' := [(10, .slice (some ad52) l39.length c31), (11, .int .i64 v40), (13, .int .i64 (ix (eI .i64).d l1 v41)), (37, .slice (some ad48) l1.length c1), (38, .int .i64 (l1.length : Int)), (39, .int .i64 v41), (48, .slice (some ad52) l39.length c31), (49, .int .i64 (ix (eI .i64).d l1 v41)), (52, .pointer (some (ad52.add ((ix (eI .i64).d l1 v41).toNat * 1))))]) (by kernel_rfl) ?_
        clear hs; intro a hs
        refine go_run hs (op := (Op.load 23 (Operand.tmp 52))) (ty := 23) (dst := some 53) (g := none) (by kernel_rfl) (by kernel_rfl) (by kernel_rfl) (x_ld (E := (eI .u32)) (off := 0) (p := ad52.add ((ix (eI .i64).d l1 v41).toNat * 1)) (v := .int .u32 (ix (eI .u32).d l39 (ix (eI .i64).d l1 v41))) (Rd.of_own (hw.up 0)) hp58.1 hp58.2 (by kernel_rfl) rfl (by kernel_rfl) (by kernel_rfl)) [10, 11, 13, 37, 38, 39, 48, 49, 53] (L' := [(10, .slice (some ad52) l39.length c31), (11, .int .i64 v40), (13, .int .i64 (ix (eI .i64).d l1 v41)), (37, .slice (some ad48) l1.length c1), (38, .int .i64 (l1.length : Int)), (39, .int .i64 v41), (48, .slice (some ad52) l39.length c31), (49, .int .i64 (ix (eI .i64).d l1 v41)), (53, .int .u32 (ix (eI .u32).d l39 (ix (eI .i64).d l1 v41)))]) (by kernel_rfl) ?_
        clear hs; intro a hs
        refine go_pvs 6 10 [10, 13, 37, 38, 39, 48, 49, 57] hs (L' := [(10, .slice (some ad52) l39.length c31), (13, .int .i64 (ix (eI .i64).d l1 v41)), (37, .slice (some ad48) l1.length c1), (38, .int .i64 (l1.length : Int)), (39, .int .i64 v41), (48, .slice (some ad52) l39.length c31), (49, .int .i64 (ix (eI .i64).d l1 v41)), (57, .int .u32 (bor .u32 (wu32 ((ix (eI .u32).d l39 (ix (eI .i64).d l1 v41)) * 2 ^ 16)) (wu32 v40)))]) (by kernel_rfl) ?_ rfl
        clear hs; intro a hs
        obtain ⟨hp59, H⟩ := ite_only H
        refine go_run hs (op := (Op.indexAddr 22 (Operand.tmp 48) (Operand.tmp 49))) (ty := 0) (dst := some 58) (g := none) (by kernel_rfl) (by kernel_rfl) (by kernel_rfl) (x_idx (T := 23) (sz := 1) (a := ad52) (n := l39.length) (cap := c31) (k := .i64) (i := (ix (eI .i64).d l1 v41)) (by kernel_rfl) (by kernel_rfl) (by kernel_rfl) (by kernel_rfl) hp59.1 hp59.2) [10, 13, 37, 38, 39, 57, 58] (L' := [(10, .slice (some ad52) l39.length c31), (13, .int .i64 (ix (eI .i64).d l1 v41)), (37, .slice (some ad48) l1.length c1), (38, .int .i64 (l1.length : Int)), (39, .int .i64 v41), (57, .int .u32 (bor .u32 (wu32 ((ix (eI .u32).d l39 (ix (eI .i64).d l1 v41)) * 2 ^ 16)) (wu32 v40))), (58, .pointer (some (ad52.add ((ix (eI .i64).d l1 v41).toNat * 1))))]) (by kernel_rfl) ?_
        clear hs; intro a hs
        obtain ⟨wd60, hx61, hw⟩ := x_put (P := Try.prog) (L := [(10, .slice (some ad52) l39.length c31), (13, .int .i64 (ix (eI .i64).d l1 v41)), (37, .slice (some ad48) l1.length c1), (38, .int .i64 (l1.length : Int)), (39, .int .i64 v41), (57, .int .u32 (bor .u32 (wu32 ((ix (eI .u32).d l39 (ix (eI .i64).d l1 v41)) * 2 ^ 16)) (wu32 v40))), (58, .pointer (some (ad52.add ((ix (eI .i64).d l1 v41).toNat * 1))))]) (ty := 0) (t := 23) (x := (Operand.tmp 58)) (y := (Operand.tmp 57)) (off := 0) (p := ad52.add ((ix (eI .i64).d l1 v41).toNat * 1)) (v := .int .u32 (bor .u32 (wu32 ((ix (eI .u32).d l39 (ix (eI .i64).d l1 v41)) * 2 ^ 16)) (wu32 v40))) (vs := [.int .u32 (bor .u32 (wu32 ((ix (eI .u32).d l39 (ix (eI .i64).d l1 v41)) * 2 ^ 16)) (wu32 v40))]) (i := (ix (eI .i64).d l1 v41)) (e' := bor .u32 (wu32 ((ix (eI .u32).d l39 (ix (eI .i64).d l1 v41)) * 2 ^ 16)) (wu32 v40)) hw rfl hp59.1 hp59.2 (by kernel_rfl) rfl (by kernel_rfl) rfl (by kernel_rfl) (Nat.le_of_ble_eq_true rfl) (by simp [Value.oneCell']) (by kernel_rfl)
        refine go_unit hs (op := (Op.store 23 (Operand.tmp 58) (Operand.tmp 57))) (ty := 0) (dst := none) (g := none) (by kernel_rfl) (by kernel_rfl) (by kernel_rfl) hx61 [10, 13, 37, 38, 39] (L' := [(10, .slice (some ad52) l39.length c31), (13, .int .i64 (ix (eI .i64).d l1 v41)), (37, .slice (some ad48) l1.length c1), (38, .int .i64 (l1.length : Int)), (39, .int .i64 v41)]) (by kernel_rfl) ?_
        clear hs; intro a hs
        replace hs : Slots a 64 [(10, .slice (some ad52) (l39.set ((ix (eI .i64).d l1 v41) : Int).toNat (bor .u32 (wu32 ((ix (eI .u32).d l39 (ix (eI .i64).d l1 v41)) * 2 ^ 16)) (wu32 v40))).length c31), (13, .int .i64 (ix (eI .i64).d l1 v41)), (37, .slice (some ad48) l1.length c1), (38, .int .i64 (l1.length : Int)), (39, .int .i64 v41)] := by rw [List.length_set]; exact hs
        refine go_end (by kernel_rfl) ?_
        refine hK57 _ _ ?_
        refine go_region ?_
        refine go_pvs 0 3 [10, 11, 37, 38, 39] hs (L' := [(10, .slice (some ad52) (l39.set ((ix (eI .i64).d l1 v41) : Int).toNat (bor .u32 (wu32 ((ix (eI .u32).d l39 (ix (eI .i64).d l1 v41)) * 2 ^ 16)) (wu32 v40))).length c31), (11, .int .i64 (w64 ((ix (eI .i64).d l1 v41) + 1))), (37, .slice (some ad48) l1.length c1), (38, .int .i64 (l1.length : Int)), (39, .int .i64 v41)]) (by kernel_rfl) ?_ rfl
        clear hs; intro a hs
        refine go_end (by kernel_rfl) ?_
        refine ib_norm ?_
        refine hK45 _ _ ?_
        refine go_region ?_
        refine go_pvs 0 2 [10, 11, 37, 38, 39] hs (L' := [(10, .slice (some ad52) (l39.set ((ix (eI .i64).d l1 v41) : Int).toNat (bor .u32 (wu32 ((ix (eI .u32).d l39 (ix (eI .i64).d l1 v41)) * 2 ^ 16)) (wu32 v40))).length c31), (11, .int .i64 (w64 ((ix (eI .i64).d l1 v41) + 1))), (37, .slice (some ad48) l1.length c1), (38, .int .i64 (l1.length : Int)), (39, .int .i64 (w64 (v41 + 1)))]) (by kernel_rfl) ?_ rfl
        clear hs; intro a hs
        refine go_end (by kernel_rfl) ?_
        replace hw := hw.only 1
        exact round_end (l39.set ((ix (eI .i64).d l1 v41) : Int).toNat (bor .u32 (wu32 ((ix (eI .u32).d l39 (ix (eI .i64).d l1 v41)) * 2 ^ 16)) (wu32 v40)), w64 ((ix (eI .i64).d l1 v41) + 1), w64 (v41 + 1)) (Option.some.inj H).symm ⟨hs.keep [10, 11, 37, 38, 39] (by kernel_rfl), hw⟩
    · replace H := ite_f H (of_decide_eq_false hc)
      have hb62 := hc
      rw [hb62] at hs
      refine wp_exit ?_
      refine th_exit ?_
      refine th_exit ?_
      refine in_block ?_
      replace hw := hw.only 1
      rw [← hr38 _ (Option.some.inj H).symm] at HX38
      exact hJ5 l39 v40 _ _ (hs.keep [10, 11] (by kernel_rfl)) hw HX38
  clear H
  refine go_loop (σ := Int × Int) (fun σ a w => Slots a 64 [(0, .slice A0 l0.length c0), (1, .slice A1 l1.length c1), (7, .int .i64 σ.1), (14, .slice A1 l1.length c1), (15, .int .i64 (l1.length : Int)), (16, .int .i64 σ.2)] ∧ St [] w0 w []) hl5 (by exact ⟨hs.keep [0, 1, 7, 14, 15, 16] (by kernel_rfl), hw⟩) ?_
  rintro ⟨v6, v7⟩ a w ⟨hs, hw⟩ o H hr5
  replace hs : Slots a 64 [(0, .slice A0 l0.length c0), (1, .slice A1 l1.length c1), (7, .int .i64 v6), (14, .slice A1 l1.length c1), (15, .int .i64 (l1.length : Int)), (16, .int .i64 v7)] := hs
  replace hw : St [] w0 w [] := hw
  replace H : chain_Pack.b5 l1 l0 v6 v7 = some o := H
  unfold chain_Pack.b5 at H
  refine go_seq_k fun K8 hK8 => ?_
  refine go_region ?_
  refine go_pvs 0 1 [0, 1, 7, 14, 15, 16, 17] hs (L' := [(0, .slice A0 l0.length c0), (1, .slice A1 l1.length c1), (7, .int .i64 v6), (14, .slice A1 l1.length c1), (15, .int .i64 (l1.length : Int)), (16, .int .i64 v7), (17, .bool (decide (v7 < (l1.length : Int))))]) (by kernel_rfl) ?_ rfl
  clear hs; intro a hs
  refine go_end (by kernel_rfl) ?_
  refine hK8 _ _ ?_
  refine go_seq_k fun K9 hK9 => ?_
  refine go_cond hs (decide (v7 < (l1.length : Int))) (by kernel_rfl) (fun hc => ?_) (fun hc => ?_)
  · replace H := ite_t H (of_decide_eq_true hc)
    have hb10 := hc
    rw [hb10] at hs
    refine wp_skip ?_
    refine hK9 _ _ ?_
    refine go_seq_k fun K11 hK11 => ?_
    have hJ3 : ∀ (v24 : Int) (a : Act) (w : World), Slots a 64 [(0, .slice A0 l0.length c0), (1, .slice A1 l1.length c1), (7, .int .i64 v24), (14, .slice A1 l1.length c1), (15, .int .i64 (l1.length : Int)), (16, .int .i64 v7)] → St [] w0 w [] → chain_Pack.j3 v7 v24 = some o → K11 a w := by
      intro v24 a w hs hw H
      unfold chain_Pack.j3 at H
      refine hK11 _ _ ?_
      refine go_region ?_
      refine go_pvs 0 2 [0, 1, 7, 14, 15, 16] hs (L' := [(0, .slice A0 l0.length c0), (1, .slice A1 l1.length c1), (7, .int .i64 v24), (14, .slice A1 l1.length c1), (15, .int .i64 (l1.length : Int)), (16, .int .i64 (w64 (v7 + 1)))]) (by kernel_rfl) ?_ rfl
      clear hs; intro a hs
      refine go_end (by kernel_rfl) ?_
      replace hw := hw.only 0
      exact round_end (v24, w64 (v7 + 1)) (Option.some.inj H).symm ⟨hs.keep [0, 1, 7, 14, 15, 16] (by kernel_rfl), hw⟩
    refine wp_block ?_
    refine go_seq_k fun K12 hK12 => ?_
    refine go_region ?_
    obtain ⟨hp13, H⟩ := ite_only H
    obtain ⟨ad14, rfl⟩ := (hr1.old hw).some hp13.1 hp13.2
    refine go_run hs (op := (Op.indexAddr 35 (Operand.tmp 14) (Operand.tmp 16))) (ty := 0) (dst := some 18) (g := none) (by kernel_rfl) (by kernel_rfl) (by kernel_rfl) (x_idx (T := 3) (sz := 1) (a := ad14) (n := l1.length) (cap := c1) (k := .i64) (i := v7) (by kernel_rfl) (by kernel_rfl) (by kernel_rfl) (by kernel_rfl) hp13.1 hp13.2) [0, 1, 7, 14, 15, 16, 18] (L' := [(0, .slice A0 l0.length c0), (1, .slice (some ad14) l1.length c1), (7, .int .i64 v6), (14, .slice (some ad14) l1.length c1), (15, .int .i64 (l1.length : Int)), (16, .int .i64 v7), (18, .pointer (some (ad14.add (v7.toNat * 1))))]) (by kernel_rfl) ?_
    clear hs; intro a hs
    refine go_run hs (op := (Op.load 3 (Operand.tmp 18))) (ty := 3) (dst := some 19) (g := none) (by kernel_rfl) (by kernel_rfl) (by kernel_rfl) (x_ld (E := (eI .i64)) (off := 0) (p := ad14.add (v7.toNat * 1)) (v := .int .i64 (ix (eI .i64).d l1 v7)) (hr1.old hw) hp13.1 hp13.2 (by kernel_rfl) rfl (by kernel_rfl) (by kernel_rfl)) [0, 1, 7, 14, 15, 16, 19] (L' := [(0, .slice A0 l0.length c0), (1, .slice (some ad14) l1.length c1), (7, .int .i64 v6), (14, .slice (some ad14) l1.length c1), (15, .int .i64 (l1.length : Int)), (16, .int .i64 v7), (19, .int .i64 (ix (eI .i64).d l1 v7))]) (by kernel_rfl) ?_
    clear hs; intro a hs
    refine go_pvs 2 3 [0, 1, 7, 9, 14, 15, 16] hs (L' := [(0, .slice A0 l0.length c0), (1, .slice (some ad14) l1.length c1), (7, .int .i64 v6), (9, .int .i64 (ix (eI .i64).d l1 v7)), (14, .slice (some ad14) l1.length c1), (15, .int .i64 (l1.length : Int)), (16, .int .i64 v7)]) (by kernel_rfl) ?_ rfl
    clear hs; intro a hs
    refine go_end (by kernel_rfl) ?_
    refine hK12 _ _ ?_
    refine go_seq_k fun K15 hK15 => ?_
    have hJ2 : ∀ (a : Act) (w : World), Slots a 64 [(0, .slice A0 l0.length c0), (1, .slice (some ad14) l1.length c1), (9, .int .i64 (ix (eI .i64).d l1 v7)), (14, .slice (some ad14) l1.length c1), (15, .int .i64 (l1.length : Int)), (16, .int .i64 v7)] → St [] w0 w [] → chain_Pack.j2 v7 l1 = some o → K15 a w := by
      intro a w hs hw H
      unfold chain_Pack.j2 at H
      refine hK15 _ _ ?_
      refine go_region ?_
      refine go_pvs 0 2 [0, 1, 7, 14, 15, 16] hs (L' := [(0, .slice A0 l0.length c0), (1, .slice (some ad14) l1.length c1), (7, .int .i64 (ix (eI .i64).d l1 v7)), (14, .slice (some ad14) l1.length c1), (15, .int .i64 (l1.length : Int)), (16, .int .i64 v7)]) (by kernel_rfl) ?_ rfl
      clear hs; intro a hs
      refine go_end (by kernel_rfl) ?_
      refine ib_norm ?_
      replace hw := hw.only 0
      exact hJ3 (ix (eI .i64).d l1 v7) _ _ (hs.keep [0, 1, 7, 14, 15, 16] (by kernel_rfl)) hw H
    refine go_seq_k fun K16 hK16 => ?_
    have hJ1 : ∀ (v19 : Bool) (a : Act) (w : World), Slots a 64 [(0, .slice A0 l0.length c0), (1, .slice (some ad14) l1.length c1), (9, .int .i64 (ix (eI .i64).d l1 v7)), (14, .slice (some ad14) l1.length c1), (15, .int .i64 (l1.length : Int)), (16, .int .i64 v7), (32, .bool v19)] → St [] w0 w [] → chain_Pack.j1 v7 l1 v19 = some o → K16 a w := by
      intro v19 a w hs hw H
      unfold chain_Pack.j1 at H
      refine hK16 _ _ ?_
      refine go_cond hs v19 (by kernel_rfl) (fun hc => ?_) (fun hc => ?_)
      · replace H := ite_t H hc
        have hb20 := hc
        rw [hb20] at hs
        refine go_seq_k fun K21 hK21 => ?_
        refine go_region ?_
        refine go_pvs 0 3 [4, 5, 6] hs (L' := [(4, .slice none 0 0), (5, .int .i64 0), (6, .int .i64 7)]) (by kernel_rfl) ?_ rfl
        clear hs; intro a hs
        refine go_end (by kernel_rfl) ?_
        refine hK21 _ _ ?_
        refine wp_ret ?_
        refine th_ret ?_
        refine ib_ret ?_
        refine th_ret ?_
        refine th_ret ?_
        refine ib_ret ?_
        refine th_ret ?_
        rw [← hr5 _ (Option.some.inj H).symm] at HX5
        replace H : some (([] : List Int), 0, 7) = some r := HX5
        obtain rfl := Option.some.inj H
        replace hw := St.own_nil hw 23 (eI .u32)
        refine ret3 (t1 := 4) (v1 := .slice none 0 0) (t2 := 5) (v2 := .int .i64 0) (t3 := 6) (v3 := .int .i64 7) hs (by kernel_rfl) (by kernel_rfl) (by kernel_rfl) (by kernel_rfl) ?_
        exact ⟨none, 0, rfl, hw.only 1⟩
      · replace H := ite_f H (ff hc)
        have hb23 := hc
        rw [hb23] at hs
        refine wp_skip ?_
        replace hw := hw.only 0
        exact hJ2 _ _ (hs.keep [0, 1, 9, 14, 15, 16] (by kernel_rfl)) hw H
    refine go_region ?_
    refine go_pvs 0 4 [0, 1, 9, 14, 15, 16, 23] hs (L' := [(0, .slice A0 l0.length c0), (1, .slice (some ad14) l1.length c1), (9, .int .i64 (ix (eI .i64).d l1 v7)), (14, .slice (some ad14) l1.length c1), (15, .int .i64 (l1.length : Int)), (16, .int .i64 v7), (23, .bool (decide ((ix (eI .i64).d l1 v7) ≤ v6)))]) (by kernel_rfl) ?_ rfl
    clear hs; intro a hs
    cases hb17 : (decide ((ix (eI .i64).d l1 v7) ≤ v6))
    · replace H := ite_f H (of_decide_eq_false hb17)
      rw [hb17] at hs
      refine go_pvs 4 10 [0, 1, 9, 14, 15, 16, 29] hs (L' := [(0, .slice A0 l0.length c0), (1, .slice (some ad14) l1.length c1), (9, .int .i64 (ix (eI .i64).d l1 v7)), (14, .slice (some ad14) l1.length c1), (15, .int .i64 (l1.length : Int)), (16, .int .i64 v7), (29, .bool (decide ((ix (eI .i64).d l1 v7) ≥ (l0.length : Int))))]) (by kernel_rfl) ?_ rfl
      clear hs; intro a hs
      cases hb18 : (decide ((ix (eI .i64).d l1 v7) ≥ (l0.length : Int)))
      · replace H := ite_f H (of_decide_eq_false hb18)
        rw [hb18] at hs
        refine go_pvs 10 13 [0, 1, 9, 14, 15, 16, 32] hs (L' := [(0, .slice A0 l0.length c0), (1, .slice (some ad14) l1.length c1), (9, .int .i64 (ix (eI .i64).d l1 v7)), (14, .slice (some ad14) l1.length c1), (15, .int .i64 (l1.length : Int)), (16, .int .i64 v7), (32, .bool (decide ((ix (eI .i64).d l1 v7) > 65534)))]) (by kernel_rfl) ?_ rfl
        clear hs; intro a hs
        refine go_end (by kernel_rfl) ?_
        replace hw := hw.only 0
        exact hJ1 (decide ((ix (eI .i64).d l1 v7) > 65534)) _ _ (hs.keep [0, 1, 9, 14, 15, 16, 32] (by kernel_rfl)) hw H
      · replace H := ite_t H (of_decide_eq_true hb18)
        rw [hb18] at hs
        refine go_pvs 10 13 [0, 1, 9, 14, 15, 16, 32] hs (L' := [(0, .slice A0 l0.length c0), (1, .slice (some ad14) l1.length c1), (9, .int .i64 (ix (eI .i64).d l1 v7)), (14, .slice (some ad14) l1.length c1), (15, .int .i64 (l1.length : Int)), (16, .int .i64 v7), (32, .bool true)]) (by kernel_rfl) ?_ rfl
        clear hs; intro a hs
        refine go_end (by kernel_rfl) ?_
        replace hw := hw.only 0
        exact hJ1 true _ _ (hs.keep [0, 1, 9, 14, 15, 16, 32] (by kernel_rfl)) hw H
    · replace H := ite_t H (of_decide_eq_true hb17)
      rw [hb17] at hs
      refine go_pvs 4 13 [0, 1, 9, 14, 15, 16, 32] hs (L' := [(0, .slice A0 l0.length c0), (1, .slice (some ad14) l1.length c1), (9, .int .i64 (ix (eI .i64).d l1 v7)), (14, .slice (some ad14) l1.length c1), (15, .int .i64 (l1.length : Int)), (16, .int .i64 v7), (32, .bool true)]) (by kernel_rfl) ?_ rfl
      clear hs; intro a hs
      refine go_end (by kernel_rfl) ?_
      replace hw := hw.only 0
      exact hJ1 true _ _ (hs.keep [0, 1, 9, 14, 15, 16, 32] (by kernel_rfl)) hw H
  · replace H := ite_f H (of_decide_eq_false hc)
    have hb25 := hc
    rw [hb25] at hs
    refine wp_exit ?_
    refine th_exit ?_
    refine th_exit ?_
    refine in_block ?_
    replace hw := hw.only 0
    rw [← hr5 _ (Option.some.inj H).symm] at HX5
    exact hJ4 _ _ (hs.keep [0, 1] (by kernel_rfl)) hw HX5

/-! rivet/chain.Unpack: function 24 -/
noncomputable def chain_Unpack.b24 (l25 : List Int) (l26 : List Int) (v29 : Int) : Option ((List Int) × (List Int) × Int ⊕ (Ex ((List Int) × (List Int) × Int) ((List Int) × (List Int)))) := (if (w64 (v29 - 1)) < 0 then some (.inr (.done (l26, l25))) else (if 0 ≤ (w64 (v29 - 1)) ∧ (w64 (v29 - 1)) < (l25.length : Int) then (if (w64 (band .u32 (ix (eI .u32).d l25 (w64 (v29 - 1))) 65535)) > (w64 (v29 - 1)) then some (.inr (.ret (([] : List Int), ([] : List Int), 10))) else (if 0 ≤ (w64 (v29 - 1)) ∧ (w64 (v29 - 1)) < (l25.length : Int) then (if 0 ≤ (w64 (v29 - 1)) ∧ (w64 (v29 - 1)) < (l25.length : Int) then (if 0 ≤ (w64 (v29 - 1)) ∧ (w64 (v29 - 1)) < (l25.length : Int) then (if l26.length + ([w64 (v29 - 1)] : List Int).length ≤ 17592186044416 then some (.inl (l25.set ((w64 (v29 - 1)) : Int).toNat ((ix (eI .u32).d l25 (w64 (v29 - 1))).fdiv (2 ^ 16)), l26 ++ ([w64 (v29 - 1)] : List Int), w64 (band .u32 (ix (eI .u32).d l25 (w64 (v29 - 1))) 65535))) else none) else none) else none) else none)) else none))
noncomputable def chain_Unpack.j3 (l61 : List Int) (l64 : List Int) : Option ((List Int) × (List Int) × Int) := ((slices_Reverse_int_int l61).bind fun t67 => (some (l64, t67, 0)))
noncomputable def chain_Unpack.j2 (l0 : List Int) (a1 : Int) : Option ((List Int) × (List Int) × Int) := ((slices_Clone_uint32_uint32 l0).bind fun t13 => (((loopO (fun (σ : (List Int) × (List Int) × Int) => chain_Unpack.b24 σ.1 σ.2.1 σ.2.2) (t13, ([] : List Int), a1)).bind fun e => match e with | .ret x => some x | .done e => chain_Unpack.j3 e.1 e.2)))
noncomputable def chain_Unpack.j1 (l0 : List Int) (a1 : Int) (v5 : Bool) : Option ((List Int) × (List Int) × Int) := (if v5 = true then some (([] : List Int), ([] : List Int), 10) else chain_Unpack.j2 l0 a1)
noncomputable def chain_Unpack (l0 : List Int) (a1 : Int) : Option ((List Int) × (List Int) × Int) := (if a1 < 0 then chain_Unpack.j1 l0 a1 true else chain_Unpack.j1 l0 a1 (decide (a1 > (l0.length : Int))))
set_option maxRecDepth 100000 in
set_option maxHeartbeats 4000000 in
theorem chain_Unpack.calls (A0 : Option Addr) (c0 : Nat) (l0 : List Int) (a1 : Int) (r : (List Int) × (List Int) × Int) (w0 : World) (hr0 : Rd w0 (eI .u32) A0 c0 l0) (H : chain_Unpack l0 a1 = some r) :
    Calls Try.prog 24 #[.slice A0 l0.length c0, .int .i64 a1] w0 fun e w' => ∃ A_0 c_0, ∃ A_1 c_1, e = .returned (.tuple #[.slice A_0 r.1.length c_0, .slice A_1 r.2.1.length c_1, .int .i64 r.2.2]) ∧ St [] w0 w' [own 23 (eI .u32) A_0 c_0 r.1, own 3 (eI .i64) A_1 c_1 r.2.1] := by
  have hw : St [] w0 w0 [] := St.nil w0
  unfold chain_Unpack at H
  refine go_fn Try.func24 rfl 54 Try.ntmps24 [(0, .slice A0 l0.length c0), (1, .int .i64 a1)] (by kernel_rfl) rfl ?_
  intro a hs
  refine go_seq_k fun K1 hK1 => ?_
  refine go_region ?_
  refine go_pvs 0 3 [0, 1] hs (L' := [(0, .slice A0 l0.length c0), (1, .int .i64 a1)]) (by kernel_rfl) ?_ rfl
  clear hs; intro a hs
  refine go_end (by kernel_rfl) ?_
  refine hK1 _ _ ?_
  refine wp_scope_straight ?_
  refine go_seq_k fun K2 hK2 => ?_
  have hJ2 : ∀ (a : Act) (w : World), Slots a 54 [(0, .slice A0 l0.length c0), (1, .int .i64 a1)] → St [] w0 w [] → chain_Unpack.j2 l0 a1 = some r → K2 a w := by
    intro a w hs hw H
    unfold chain_Unpack.j2 at H
    refine hK2 _ _ ?_
    refine go_seq_k fun K11 hK11 => ?_
    refine go_region ?_
    refine go_pvs 0 1 [1, 18] hs (L' := [(1, .int .i64 a1), (18, .slice A0 l0.length c0)]) (by kernel_rfl) ?_ rfl
    clear hs; intro a hs
    obtain ⟨t13, hx14, H⟩ := bind_some H
    refine go_call hs (op := (Op.call { callee := (Callee.value (Operand.func 39)), args := #[(Operand.tmp 18)], argTypes := #[22] })) (ty := 22) (dst := some 19) (g := none) (by kernel_rfl) (by kernel_rfl) (by kernel_rfl) (f := 39) (args := #[.slice A0 l0.length c0]) (by kernel_rfl) (slices_Clone_uint32_uint32.calls A0 c0 l0 t13 _ (hr0.old hw) hx14) ?_
    rintro e wd17 ⟨A15, c16, rfl, hw18⟩
    refine ⟨_, rfl, ?_⟩
    replace hw := hw.call hw18
    intro a hs1
    replace hs : Slots a 54 [(1, .int .i64 a1), (19, .slice A15 t13.length c16)] := hs1.keep [1, 19] (by kernel_rfl)
    clear hs1
    refine go_pvs 2 3 [1, 7] hs (L' := [(1, .int .i64 a1), (7, .slice A15 t13.length c16)]) (by kernel_rfl) ?_ rfl
    clear hs; intro a hs
    refine go_end (by kernel_rfl) ?_
    refine hK11 _ _ ?_
    refine go_seq_k fun K20 hK20 => ?_
    refine go_region ?_
    refine go_pvs 0 1 [1, 7, 8] hs (L' := [(1, .int .i64 a1), (7, .slice A15 t13.length c16), (8, .slice none 0 0)]) (by kernel_rfl) ?_ rfl
    clear hs; intro a hs
    refine go_end (by kernel_rfl) ?_
    refine hK20 _ _ ?_
    refine go_seq_k fun K21 hK21 => ?_
    refine wp_label ?_
    refine hK21 _ _ ?_
    refine go_seq_k fun K22 hK22 => ?_
    refine wp_block ?_
    replace hw := St.own_nil hw 3 (eI .i64)
    obtain ⟨e24, hl24, HX24⟩ := bind_some H
    have hJ3 : ∀ (A62 : Option Addr) (c63 : Nat) (l61 : List Int) (l64 : List Int) (a : Act) (w : World), Slots a 54 [(7, .slice A15 l64.length c16), (8, .slice A62 l61.length c63)] → St [] w0 w [own 3 (eI .i64) A62 c63 l61, own 23 (eI .u32) A15 c16 l64] → chain_Unpack.j3 l61 l64 = some r → K22 a w := by
      intro A62 c63 l61 l64 a w hs hw H
      unfold chain_Unpack.j3 at H
      refine hK22 _ _ ?_
      refine go_seq_k fun K65 hK65 => ?_
      refine go_region ?_
      refine go_pvs 0 1 [7, 8, 50] hs (L' := [(7, .slice A15 l64.length c16), (8, .slice A62 l61.length c63), (50, .slice A62 l61.length c63)]) (by kernel_rfl) ?_ rfl
      clear hs; intro a hs
      obtain ⟨ks66, hgks66, hstks66, hbkks66⟩ := hw.lend 1
      obtain ⟨t67, hx68, H⟩ := bind_some H
      refine go_call hs (op := (Op.call { callee := (Callee.value (Operand.func 41)), args := #[(Operand.tmp 50)], argTypes := #[35] })) (ty := 0) (dst := some 51) (g := none) (by kernel_rfl) (by kernel_rfl) (by kernel_rfl) (f := 41) (args := #[.slice A62 l61.length c63]) (by kernel_rfl) (slices_Reverse_int_int.calls ks66 A62 c63 l61 t67 _ hgks66 hx68) ?_
      rintro e wd69 ⟨rfl, hw70⟩
      refine ⟨_, rfl, ?_⟩
      replace hw := hbkks66 _ _ hw70
      intro a hs1
      replace hs : Slots a 54 [(7, .slice A15 l64.length c16), (8, .slice A62 t67.length c63)] := by rw [slices_Reverse_int_int.len hx68]; exact hs1.keep [7, 8] (by kernel_rfl)
      clear hs1
      refine go_end (by kernel_rfl) ?_
      refine hK65 _ _ ?_
      refine go_seq_k fun K71 hK71 => ?_
      refine go_region ?_
      refine go_pvs 0 5 [4, 5, 6] hs (L' := [(4, .slice A15 l64.length c16), (5, .slice A62 t67.length c63), (6, .int .i64 0)]) (by kernel_rfl) ?_ rfl
      clear hs; intro a hs
      refine go_end (by kernel_rfl) ?_
      refine hK71 _ _ ?_
      refine wp_ret ?_
      refine ng_ret ?_
      obtain rfl := Option.some.inj H
      replace hw := hw.up 1
      refine ret3 (t1 := 4) (v1 := .slice A15 l64.length c16) (t2 := 5) (v2 := .slice A62 t67.length c63) (t3 := 6) (v3 := .int .i64 0) hs (by kernel_rfl) (by kernel_rfl) (by kernel_rfl) (by kernel_rfl) ?_
      exact ⟨A15, c16, A62, c63, rfl, hw.only 2⟩
    clear H
    refine go_loop (σ := (List Int) × (List Int) × Int) (fun σ a w => ∃ A27, ∃ c28, Slots a 54 [(1, .int .i64 σ.2.2), (7, .slice A15 σ.1.length c16), (8, .slice A27 σ.2.1.length c28)] ∧ St [] w0 w [own 3 (eI .i64) A27 c28 σ.2.1, own 23 (eI .u32) A15 c16 σ.1]) hl24 (by exact ⟨none, 0, hs.keep [1, 7, 8] (by kernel_rfl), hw⟩) ?_
    rintro ⟨l25, l26, v29⟩ a w ⟨A27, c28, hs, hw⟩ o H hr24
    replace hs : Slots a 54 [(1, .int .i64 v29), (7, .slice A15 l25.length c16), (8, .slice A27 l26.length c28)] := hs
    replace hw : St [] w0 w [own 3 (eI .i64) A27 c28 l26, own 23 (eI .u32) A15 c16 l25] := hw
    replace H : chain_Unpack.b24 l25 l26 v29 = some o := H
    unfold chain_Unpack.b24 at H
    refine wp_block ?_
    refine go_seq_k fun K30 hK30 => ?_
    refine go_region ?_
    refine go_pvs 0 3 [7, 8, 9] hs (L' := [(7, .slice A15 l25.length c16), (8, .slice A27 l26.length c28), (9, .int .i64 (w64 (v29 - 1)))]) (by kernel_rfl) ?_ rfl
    clear hs; intro a hs
    refine go_end (by kernel_rfl) ?_
    refine hK30 _ _ ?_
    refine go_seq_k fun K31 hK31 => ?_
    refine wp_block ?_
    refine go_seq_k fun K32 hK32 => ?_
    refine go_region ?_
    refine go_pvs 0 3 [7, 8, 9, 22] hs (L' := [(7, .slice A15 l25.length c16), (8, .slice A27 l26.length c28), (9, .int .i64 (w64 (v29 - 1))), (22, .bool (decide ((w64 (v29 - 1)) < 0)))]) (by kernel_rfl) ?_ rfl
    clear hs; intro a hs
    refine go_end (by kernel_rfl) ?_
    refine hK32 _ _ ?_
    refine go_cond hs (decide ((w64 (v29 - 1)) < 0)) (by kernel_rfl) (fun hc => ?_) (fun hc => ?_)
    · replace H := ite_t H (of_decide_eq_true hc)
      have hb33 := hc
      rw [hb33] at hs
      refine wp_exit ?_
      refine ib_exit ?_ rfl
      refine th_exit ?_
      refine ib_exit ?_ rfl
      refine th_exit ?_
      refine in_block ?_
      replace hw := hw.up 1
      replace hw := hw.up 1
      replace hw := hw.only 2
      rw [← hr24 _ (Option.some.inj H).symm] at HX24
      exact hJ3 A27 c28 l26 l25 _ _ (hs.keep [7, 8] (by kernel_rfl)) hw HX24
    · replace H := ite_f H (of_decide_eq_false hc)
      have hb34 := hc
      rw [hb34] at hs
      refine go_seq_k fun K35 hK35 => ?_
      refine go_region ?_
      refine go_pvs 0 2 [7, 8, 9, 26, 27] hs (L' := [(7, .slice A15 l25.length c16), (8, .slice A27 l26.length c28), (9, .int .i64 (w64 (v29 - 1))), (26, .slice A15 l25.length c16), (27, .int .i64 (w64 (v29 - 1)))]) (by kernel_rfl) ?_ rfl
      clear hs; intro a hs
      obtain ⟨hp36, H⟩ := ite_only H
      obtain ⟨ad37, rfl⟩ := (Rd.of_own (hw.up 1)).some hp36.1 hp36.2
      refine go_run hs (op := (Op.indexAddr 22 (Operand.tmp 26) (Operand.tmp 27))) (ty := 0) (dst := some 28) (g := none) (by kernel_rfl) (by kernel_rfl) (by kernel_rfl) (x_idx (T := 23) (sz := 1) (a := ad37) (n := l25.length) (cap := c16) (k := .i64) (i := (w64 (v29 - 1))) (by kernel_rfl) (by kernel_rfl) (by kernel_rfl) (by kernel_rfl) hp36.1 hp36.2) [7, 8, 9, 28] (L' := [(7, .slice (some ad37) l25.length c16), (8, .slice A27 l26.length c28), (9, .int .i64 (w64 (v29 - 1))), (28, .pointer (some (ad37.add ((w64 (v29 - 1)).toNat * 1))))]) (by kernel_rfl) ?_
      clear hs; intro a hs
      refine go_run hs (op := (Op.load 23 (Operand.tmp 28))) (ty := 23) (dst := some 29) (g := none) (by kernel_rfl) (by kernel_rfl) (by kernel_rfl) (x_ld (E := (eI .u32)) (off := 0) (p := ad37.add ((w64 (v29 - 1)).toNat * 1)) (v := .int .u32 (ix (eI .u32).d l25 (w64 (v29 - 1)))) (Rd.of_own (hw.up 1)) hp36.1 hp36.2 (by kernel_rfl) rfl (by kernel_rfl) (by kernel_rfl)) [7, 8, 9, 29] (L' := [(7, .slice (some ad37) l25.length c16), (8, .slice A27 l26.length c28), (9, .int .i64 (w64 (v29 - 1))), (29, .int .u32 (ix (eI .u32).d l25 (w64 (v29 - 1))))]) (by kernel_rfl) ?_
      clear hs; intro a hs
      refine go_pvs 4 9 [7, 8, 9, 25] hs (L' := [(7, .slice (some ad37) l25.length c16), (8, .slice A27 l26.length c28), (9, .int .i64 (w64 (v29 - 1))), (25, .bool (decide ((w64 (band .u32 (ix (eI .u32).d l25 (w64 (v29 - 1))) 65535)) > (w64 (v29 - 1)))))]) (by kernel_rfl) ?_ rfl
      clear hs; intro a hs
      refine go_end (by kernel_rfl) ?_
      refine hK35 _ _ ?_
      refine go_cond hs (decide ((w64 (band .u32 (ix (eI .u32).d l25 (w64 (v29 - 1))) 65535)) > (w64 (v29 - 1)))) (by kernel_rfl) (fun hc => ?_) (fun hc => ?_)
      · replace H := ite_t H (of_decide_eq_true hc)
        have hb38 := hc
        rw [hb38] at hs
        refine go_seq_k fun K39 hK39 => ?_
        refine go_region ?_
        refine go_pvs 0 3 [4, 5, 6] hs (L' := [(4, .slice none 0 0), (5, .slice none 0 0), (6, .int .i64 10)]) (by kernel_rfl) ?_ rfl
        clear hs; intro a hs
        refine go_end (by kernel_rfl) ?_
        refine hK39 _ _ ?_
        refine wp_ret ?_
        refine ib_ret ?_
        refine th_ret ?_
        refine ib_ret ?_
        refine th_ret ?_
        refine ib_ret ?_
        refine th_ret ?_
        refine ng_ret ?_
        rw [← hr24 _ (Option.some.inj H).symm] at HX24
        replace H : some (([] : List Int), ([] : List Int), 10) = some r := HX24
        obtain rfl := Option.some.inj H
        replace hw := St.own_nil hw 23 (eI .u32)
        replace hw := St.own_nil hw 3 (eI .i64)
        replace hw := hw.up 1
        refine ret3 (t1 := 4) (v1 := .slice none 0 0) (t2 := 5) (v2 := .slice none 0 0) (t3 := 6) (v3 := .int .i64 10) hs (by kernel_rfl) (by kernel_rfl) (by kernel_rfl) (by kernel_rfl) ?_
        exact ⟨none, 0, none, 0, rfl, hw.only 2⟩
      · replace H := ite_f H (of_decide_eq_false hc)
        have hb42 := hc
        rw [hb42] at hs
        refine wp_skip ?_
        refine ib_norm ?_
        refine hK31 _ _ ?_
        refine go_seq_k fun K43 hK43 => ?_
        refine go_region ?_
        refine go_pvs 0 2 [7, 8, 9, 34, 35] hs (L' := [(7, .slice (some ad37) l25.length c16), (8, .slice A27 l26.length c28), (9, .int .i64 (w64 (v29 - 1))), (34, .slice (some ad37) l25.length c16), (35, .int .i64 (w64 (v29 - 1)))]) (by kernel_rfl) ?_ rfl
        clear hs; intro a hs
        obtain ⟨hp44, H⟩ := ite_only H
        refine go_run hs (op := (Op.indexAddr 22 (Operand.tmp 34) (Operand.tmp 35))) (ty := 0) (dst := some 36) (g := none) (by kernel_rfl) (by kernel_rfl) (by kernel_rfl) (x_idx (T := 23) (sz := 1) (a := ad37) (n := l25.length) (cap := c16) (k := .i64) (i := (w64 (v29 - 1))) (by kernel_rfl) (by kernel_rfl) (by kernel_rfl) (by kernel_rfl) hp44.1 hp44.2) [7, 8, 9, 36] (L' := [(7, .slice (some ad37) l25.length c16), (8, .slice A27 l26.length c28), (9, .int .i64 (w64 (v29 - 1))), (36, .pointer (some (ad37.add ((w64 (v29 - 1)).toNat * 1))))]) (by kernel_rfl) ?_
        clear hs; intro a hs
        refine go_run hs (op := (Op.load 23 (Operand.tmp 36))) (ty := 23) (dst := some 37) (g := none) (by kernel_rfl) (by kernel_rfl) (by kernel_rfl) (x_ld (E := (eI .u32)) (off := 0) (p := ad37.add ((w64 (v29 - 1)).toNat * 1)) (v := .int .u32 (ix (eI .u32).d l25 (w64 (v29 - 1)))) (Rd.of_own (hw.up 1)) hp44.1 hp44.2 (by kernel_rfl) rfl (by kernel_rfl) (by kernel_rfl)) [7, 8, 9, 37] (L' := [(7, .slice (some ad37) l25.length c16), (8, .slice A27 l26.length c28), (9, .int .i64 (w64 (v29 - 1))), (37, .int .u32 (ix (eI .u32).d l25 (w64 (v29 - 1))))]) (by kernel_rfl) ?_
        clear hs; intro a hs
        refine go_pvs 4 7 [1, 7, 8, 9] hs (L' := [(1, .int .i64 (w64 (band .u32 (ix (eI .u32).d l25 (w64 (v29 - 1))) 65535))), (7, .slice (some ad37) l25.length c16), (8, .slice A27 l26.length c28), (9, .int .i64 (w64 (v29 - 1)))]) (by kernel_rfl) ?_ rfl
        clear hs; intro a hs
        refine go_end (by kernel_rfl) ?_
        refine hK43 _ _ ?_
        refine go_seq_k fun K45 hK45 => ?_
        refine go_region ?_
        refine go_pvs 0 2 [1, 7, 8, 9, 40, 41] hs (L' := [(1, .int .i64 (w64 (band .u32 (ix (eI .u32).d l25 (w64 (v29 - 1))) 65535))), (7, .slice (some ad37) l25.length c16), (8, .slice A27 l26.length c28), (9, .int .i64 (w64 (v29 - 1))), (40, .slice (some ad37) l25.length c16), (41, .int .i64 (w64 (v29 - 1)))]) (by kernel_rfl) ?_ rfl
        clear hs; intro a hs
        obtain ⟨hp46, H⟩ := ite_only H
        refine go_run hs (op := (Op.indexAddr 22 (Operand.tmp 40) (Operand.tmp 41))) (ty := 0) (dst := some 42) (g := none) (by kernel_rfl) (by kernel_rfl) (by kernel_rfl) (x_idx (T := 23) (sz := 1) (a := ad37) (n := l25.length) (cap := c16) (k := .i64) (i := (w64 (v29 - 1))) (by kernel_rfl) (by kernel_rfl) (by kernel_rfl) (by kernel_rfl) hp46.1 hp46.2) [1, 7, 8, 9, 40, 41, 42] (L' := [(1, .int .i64 (w64 (band .u32 (ix (eI .u32).d l25 (w64 (v29 - 1))) 65535))), (7, .slice (some ad37) l25.length c16), (8, .slice A27 l26.length c28), (9, .int .i64 (w64 (v29 - 1))), (40, .slice (some ad37) l25.length c16), (41, .int .i64 (w64 (v29 - 1))), (42, .pointer (some (ad37.add ((w64 (v29 - 1)).toNat * 1))))]) (by kernel_rfl) ?_
        clear hs; intro a hs
        refine go_run hs (op := (Op.load 23 (Operand.tmp 42))) (ty := 23) (dst := some 43) (g := none) (by kernel_rfl) (by kernel_rfl) (by kernel_rfl) (x_ld (E := (eI .u32)) (off := 0) (p := ad37.add ((w64 (v29 - 1)).toNat * 1)) (v := .int .u32 (ix (eI .u32).d l25 (w64 (v29 - 1)))) (Rd.of_own (hw.up 1)) hp46.1 hp46.2 (by kernel_rfl) rfl (by kernel_rfl) (by kernel_rfl)) [1, 7, 8, 9, 40, 41, 43] (L' := [(1, .int .i64 (w64 (band .u32 (ix (eI .u32).d l25 (w64 (v29 - 1))) 65535))), (7, .slice (some ad37) l25.length c16), (8, .slice A27 l26.length c28), (9, .int .i64 (w64 (v29 - 1))), (40, .slice (some ad37) l25.length c16), (41, .int .i64 (w64 (v29 - 1))), (43, .int .u32 (ix (eI .u32).d l25 (w64 (v29 - 1))))]) (by kernel_rfl) ?_
        clear hs; intro a hs
        refine go_pvs 4 5 [1, 7, 8, 9, 40, 41, 44] hs (L' := [(1, .int .i64 (w64 (band .u32 (ix (eI .u32).d l25 (w64 (v29 - 1))) 65535))), (7, .slice (some ad37) l25.length c16), (8, .slice A27 l26.length c28), (9, .int .i64 (w64 (v29 - 1))), (40, .slice (some ad37) l25.length c16), (41, .int .i64 (w64 (v29 - 1))), (44, .int .u32 ((ix (eI .u32).d l25 (w64 (v29 - 1))).fdiv (2 ^ 16)))]) (by kernel_rfl) ?_ rfl
        clear hs; intro a hs
        obtain ⟨hp47, H⟩ := ite_only H
        refine go_run hs (op := (Op.indexAddr 22 (Operand.tmp 40) (Operand.tmp 41))) (ty := 0) (dst := some 45) (g := none) (by kernel_rfl) (by kernel_rfl) (by kernel_rfl) (x_idx (T := 23) (sz := 1) (a := ad37) (n := l25.length) (cap := c16) (k := .i64) (i := (w64 (v29 - 1))) (by kernel_rfl) (by kernel_rfl) (by kernel_rfl) (by kernel_rfl) hp47.1 hp47.2) [1, 7, 8, 9, 44, 45] (L' := [(1, .int .i64 (w64 (band .u32 (ix (eI .u32).d l25 (w64 (v29 - 1))) 65535))), (7, .slice (some ad37) l25.length c16), (8, .slice A27 l26.length c28), (9, .int .i64 (w64 (v29 - 1))), (44, .int .u32 ((ix (eI .u32).d l25 (w64 (v29 - 1))).fdiv (2 ^ 16))), (45, .pointer (some (ad37.add ((w64 (v29 - 1)).toNat * 1))))]) (by kernel_rfl) ?_
        clear hs; intro a hs
        replace hw := hw.up 1
        obtain ⟨wd48, hx49, hw⟩ := x_put (P := Try.prog) (L := [(1, .int .i64 (w64 (band .u32 (ix (eI .u32).d l25 (w64 (v29 - 1))) 65535))), (7, .slice (some ad37) l25.length c16), (8, .slice A27 l26.length c28), (9, .int .i64 (w64 (v29 - 1))), (44, .int .u32 ((ix (eI .u32).d l25 (w64 (v29 - 1))).fdiv (2 ^ 16))), (45, .pointer (some (ad37.add ((w64 (v29 - 1)).toNat * 1))))]) (ty := 0) (t := 23) (x := (Operand.tmp 45)) (y := (Operand.tmp 44)) (off := 0) (p := ad37.add ((w64 (v29 - 1)).toNat * 1)) (v := .int .u32 ((ix (eI .u32).d l25 (w64 (v29 - 1))).fdiv (2 ^ 16))) (vs := [.int .u32 ((ix (eI .u32).d l25 (w64 (v29 - 1))).fdiv (2 ^ 16))]) (i := (w64 (v29 - 1))) (e' := (ix (eI .u32).d l25 (w64 (v29 - 1))).fdiv (2 ^ 16)) hw rfl hp47.1 hp47.2 (by kernel_rfl) rfl (by kernel_rfl) rfl (by kernel_rfl) (Nat.le_of_ble_eq_true rfl) (by simp [Value.oneCell']) (by kernel_rfl)
        refine go_unit hs (op := (Op.store 23 (Operand.tmp 45) (Operand.tmp 44))) (ty := 0) (dst := none) (g := none) (by kernel_rfl) (by kernel_rfl) (by kernel_rfl) hx49 [1, 7, 8, 9] (L' := [(1, .int .i64 (w64 (band .u32 (ix (eI .u32).d l25 (w64 (v29 - 1))) 65535))), (7, .slice (some ad37) l25.length c16), (8, .slice A27 l26.length c28), (9, .int .i64 (w64 (v29 - 1)))]) (by kernel_rfl) ?_
        clear hs; intro a hs
        replace hs : Slots a 54 [(1, .int .i64 (w64 (band .u32 (ix (eI .u32).d l25 (w64 (v29 - 1))) 65535))), (7, .slice (some ad37) (l25.set ((w64 (v29 - 1)) : Int).toNat ((ix (eI .u32).d l25 (w64 (v29 - 1))).fdiv (2 ^ 16))).length c16), (8, .slice A27 l26.length c28), (9, .int .i64 (w64 (v29 - 1)))] := by rw [List.length_set]; exact hs
        refine go_end (by kernel_rfl) ?_
        refine hK45 _ _ ?_
        refine go_region ?_
        refine go_pvs 0 2 [1, 7, 46, 47] hs (L' := [(1, .int .i64 (w64 (band .u32 (ix (eI .u32).d l25 (w64 (v29 - 1))) 65535))), (7, .slice (some ad37) (l25.set ((w64 (v29 - 1)) : Int).toNat ((ix (eI .u32).d l25 (w64 (v29 - 1))).fdiv (2 ^ 16))).length c16), (46, .slice A27 l26.length c28), (47, .int .i64 (w64 (v29 - 1)))]) (by kernel_rfl) ?_ rfl
        clear hs; intro a hs
        obtain ⟨A50, c51, wd52, hx53, hw⟩ := n_lit (P := Try.prog) (L := [(1, .int .i64 (w64 (band .u32 (ix (eI .u32).d l25 (w64 (v29 - 1))) 65535))), (7, .slice (some ad37) (l25.set ((w64 (v29 - 1)) : Int).toNat ((ix (eI .u32).d l25 (w64 (v29 - 1))).fdiv (2 ^ 16))).length c16), (46, .slice A27 l26.length c28), (47, .int .i64 (w64 (v29 - 1)))]) (t := 35) (ty := 35) (T := 3) (len := 1) (parts := #[(0, (Operand.tmp 47))]) (z := .int .i64 0) (bytes := 8) (cells := #[.int .i64 (w64 (v29 - 1))]) hw (eI .i64) ([w64 (v29 - 1)] : List Int) (by kernel_rfl) (by kernel_rfl) (by kernel_rfl) (by kernel_rfl) (by kernel_rfl) (by kernel_rfl) (by kernel_rfl)
        refine go_run hs (op := (Op.buildSlice 35 1 #[(0, (Operand.tmp 47))])) (ty := 35) (dst := some 48) (g := none) (by kernel_rfl) (by kernel_rfl) (by kernel_rfl) hx53 [1, 7, 46, 48] (L' := [(1, .int .i64 (w64 (band .u32 (ix (eI .u32).d l25 (w64 (v29 - 1))) 65535))), (7, .slice (some ad37) (l25.set ((w64 (v29 - 1)) : Int).toNat ((ix (eI .u32).d l25 (w64 (v29 - 1))).fdiv (2 ^ 16))).length c16), (46, .slice A27 l26.length c28), (48, .slice A50 ([w64 (v29 - 1)] : List Int).length c51)]) (by kernel_rfl) ?_
        clear hs; intro a hs
        obtain ⟨hp55, H⟩ := ite_only H
        have hsrc60 : Src Try.prog (eI .i64).sz 35 (.slice A50 ([w64 (v29 - 1)] : List Int).length c51) ([w64 (v29 - 1)] : List Int).length (([w64 (v29 - 1)] : List Int).flatMap (eI .i64).enc) _ := (Src.of_rd (E := (eI .i64)) (e' := 3) (by kernel_rfl) (Rd.of_own (hw.up 0)))
        replace hw := hw.up 2
        obtain ⟨A56, c57, wd58, hx59, hw⟩ := x_append (P := Try.prog) (L := [(1, .int .i64 (w64 (band .u32 (ix (eI .u32).d l25 (w64 (v29 - 1))) 65535))), (7, .slice (some ad37) (l25.set ((w64 (v29 - 1)) : Int).toNat ((ix (eI .u32).d l25 (w64 (v29 - 1))).fdiv (2 ^ 16))).length c16), (46, .slice A27 l26.length c28), (48, .slice A50 ([w64 (v29 - 1)] : List Int).length c51)]) (t := 35) (tx := 35) (ty := 35) (x := (Operand.tmp 46)) (y := (Operand.tmp 48)) (z := .int .i64 0) (bytes := 8) (l2 := ([w64 (v29 - 1)] : List Int)) hw (by kernel_rfl) (by kernel_rfl) (by kernel_rfl) (by kernel_rfl) (by kernel_rfl) hsrc60 (by omega) (by omega)
        refine go_run hs (op := (Op.call { callee := (Callee.builtin Builtin.append), args := #[(Operand.tmp 46), (Operand.tmp 48)], argTypes := #[35, 35] })) (ty := 35) (dst := some 49) (g := none) (by kernel_rfl) (by kernel_rfl) (by kernel_rfl) hx59 [1, 7, 49] (L' := [(1, .int .i64 (w64 (band .u32 (ix (eI .u32).d l25 (w64 (v29 - 1))) 65535))), (7, .slice (some ad37) (l25.set ((w64 (v29 - 1)) : Int).toNat ((ix (eI .u32).d l25 (w64 (v29 - 1))).fdiv (2 ^ 16))).length c16), (49, .slice A56 (l26 ++ ([w64 (v29 - 1)] : List Int)).length c57)]) (by kernel_rfl) ?_
        clear hs; intro a hs
        refine go_pvs 4 5 [1, 7, 8] hs (L' := [(1, .int .i64 (w64 (band .u32 (ix (eI .u32).d l25 (w64 (v29 - 1))) 65535))), (7, .slice (some ad37) (l25.set ((w64 (v29 - 1)) : Int).toNat ((ix (eI .u32).d l25 (w64 (v29 - 1))).fdiv (2 ^ 16))).length c16), (8, .slice A56 (l26 ++ ([w64 (v29 - 1)] : List Int)).length c57)]) (by kernel_rfl) ?_ rfl
        clear hs; intro a hs
        refine go_end (by kernel_rfl) ?_
        refine ib_norm ?_
        replace hw := hw.up 2
        replace hw := hw.up 1
        replace hw := hw.only 2
        exact round_end (l25.set ((w64 (v29 - 1)) : Int).toNat ((ix (eI .u32).d l25 (w64 (v29 - 1))).fdiv (2 ^ 16)), l26 ++ ([w64 (v29 - 1)] : List Int), w64 (band .u32 (ix (eI .u32).d l25 (w64 (v29 - 1))) 65535)) (Option.some.inj H).symm ⟨A56, c57, hs.keep [1, 7, 8] (by kernel_rfl), hw⟩
  refine go_seq_k fun K3 hK3 => ?_
  have hJ1 : ∀ (v5 : Bool) (a : Act) (w : World), Slots a 54 [(0, .slice A0 l0.length c0), (1, .int .i64 a1), (17, .bool v5)] → St [] w0 w [] → chain_Unpack.j1 l0 a1 v5 = some r → K3 a w := by
    intro v5 a w hs hw H
    unfold chain_Unpack.j1 at H
    refine hK3 _ _ ?_
    refine go_cond hs v5 (by kernel_rfl) (fun hc => ?_) (fun hc => ?_)
    · replace H := ite_t H hc
      have hb6 := hc
      rw [hb6] at hs
      refine go_seq_k fun K7 hK7 => ?_
      refine go_region ?_
      refine go_pvs 0 3 [4, 5, 6] hs (L' := [(4, .slice none 0 0), (5, .slice none 0 0), (6, .int .i64 10)]) (by kernel_rfl) ?_ rfl
      clear hs; intro a hs
      refine go_end (by kernel_rfl) ?_
      refine hK7 _ _ ?_
      refine wp_ret ?_
      refine th_ret ?_
      refine ng_ret ?_
      obtain rfl := Option.some.inj H
      replace hw := St.own_nil hw 23 (eI .u32)
      replace hw := St.own_nil hw 3 (eI .i64)
      replace hw := hw.up 1
      refine ret3 (t1 := 4) (v1 := .slice none 0 0) (t2 := 5) (v2 := .slice none 0 0) (t3 := 6) (v3 := .int .i64 10) hs (by kernel_rfl) (by kernel_rfl) (by kernel_rfl) (by kernel_rfl) ?_
      exact ⟨none, 0, none, 0, rfl, hw.only 2⟩
    · replace H := ite_f H (ff hc)
      have hb10 := hc
      rw [hb10] at hs
      refine wp_skip ?_
      replace hw := hw.only 0
      exact hJ2 _ _ (hs.keep [0, 1] (by kernel_rfl)) hw H
  refine go_region ?_
  refine go_pvs 0 3 [0, 1, 12] hs (L' := [(0, .slice A0 l0.length c0), (1, .int .i64 a1), (12, .bool (decide (a1 < 0)))]) (by kernel_rfl) ?_ rfl
  clear hs; intro a hs
  cases hb4 : (decide (a1 < 0))
  · replace H := ite_f H (of_decide_eq_false hb4)
    rw [hb4] at hs
    refine go_pvs 3 8 [0, 1, 17] hs (L' := [(0, .slice A0 l0.length c0), (1, .int .i64 a1), (17, .bool (decide (a1 > (l0.length : Int))))]) (by kernel_rfl) ?_ rfl
    clear hs; intro a hs
    refine go_end (by kernel_rfl) ?_
    replace hw := hw.only 0
    exact hJ1 (decide (a1 > (l0.length : Int))) _ _ (hs.keep [0, 1, 17] (by kernel_rfl)) hw H
  · replace H := ite_t H (of_decide_eq_true hb4)
    rw [hb4] at hs
    refine go_pvs 3 8 [0, 1, 17] hs (L' := [(0, .slice A0 l0.length c0), (1, .int .i64 a1), (17, .bool true)]) (by kernel_rfl) ?_ rfl
    clear hs; intro a hs
    refine go_end (by kernel_rfl) ?_
    replace hw := hw.only 0
    exact hJ1 true _ _ (hs.keep [0, 1, 17] (by kernel_rfl)) hw H

/-! rivet/rivetlaw08.shown: function 19 -/
noncomputable def rivetlaw08_shown.j1 (v36 : Bool) : Option Bool := some v36
noncomputable def rivetlaw08_shown : Option Bool := ((chain_Pack ([8, 7, 4] : List Int) ([0, 2] : List Int)).bind fun ⟨t14, t15, t16⟩ => (((rivetref05_Same t14 ([524288, 7, 262145] : List Int)).bind fun t30 => ((if t30 = true then (if t15 = 3 then rivetlaw08_shown.j1 (t16 == 0) else rivetlaw08_shown.j1 false) else rivetlaw08_shown.j1 false)))))
set_option maxRecDepth 100000 in
set_option maxHeartbeats 4000000 in
theorem rivetlaw08_shown.calls (r : Bool) (w0 : World) (H : rivetlaw08_shown = some r) :
    Calls Try.prog 19 #[] w0 fun e w' => e = .returned (.bool r) ∧ St [] w0 w' [] := by
  have hw : St [] w0 w0 [] := St.nil w0
  unfold rivetlaw08_shown at H
  refine go_fn Try.func19 rfl 22 Try.ntmps19 [] (by kernel_rfl) rfl ?_
  intro a hs
  refine go_seq_k fun K1 hK1 => ?_
  refine go_region ?_
  refine go_pvs 0 1 [] hs (L' := []) (by kernel_rfl) ?_ rfl
  clear hs; intro a hs
  refine go_end (by kernel_rfl) ?_
  refine hK1 _ _ ?_
  refine go_seq_k fun K2 hK2 => ?_
  refine go_region ?_
  obtain ⟨A3, c4, wd5, hx6, hw⟩ := n_lit (P := Try.prog) (L := []) (t := 22) (ty := 22) (T := 23) (len := 3) (parts := #[(0, (Operand.const (Value.int IntKind.u32 8))), (1, (Operand.const (Value.int IntKind.u32 7))), (2, (Operand.const (Value.int IntKind.u32 4)))]) (z := .int .u32 0) (bytes := 4) (cells := #[.int .u32 8, .int .u32 7, .int .u32 4]) hw (eI .u32) ([8, 7, 4] : List Int) (by kernel_rfl) (by kernel_rfl) (by kernel_rfl) (by kernel_rfl) (by kernel_rfl) (by kernel_rfl) (by kernel_rfl)
  refine go_run hs (op := (Op.buildSlice 22 3 #[(0, (Operand.const (Value.int IntKind.u32 8))), (1, (Operand.const (Value.int IntKind.u32 7))), (2, (Operand.const (Value.int IntKind.u32 4)))])) (ty := 22) (dst := some 5) (g := none) (by kernel_rfl) (by kernel_rfl) (by kernel_rfl) hx6 [5] (L' := [(5, .slice A3 ([8, 7, 4] : List Int).length c4)]) (by kernel_rfl) ?_
  clear hs; intro a hs
  obtain ⟨A8, c9, wd10, hx11, hw⟩ := n_lit (P := Try.prog) (L := [(5, .slice A3 ([8, 7, 4] : List Int).length c4)]) (t := 35) (ty := 35) (T := 3) (len := 2) (parts := #[(0, (Operand.const (Value.int IntKind.i64 0))), (1, (Operand.const (Value.int IntKind.i64 2)))]) (z := .int .i64 0) (bytes := 8) (cells := #[.int .i64 0, .int .i64 2]) hw (eI .i64) ([0, 2] : List Int) (by kernel_rfl) (by kernel_rfl) (by kernel_rfl) (by kernel_rfl) (by kernel_rfl) (by kernel_rfl) (by kernel_rfl)
  refine go_run hs (op := (Op.buildSlice 35 2 #[(0, (Operand.const (Value.int IntKind.i64 0))), (1, (Operand.const (Value.int IntKind.i64 2)))])) (ty := 35) (dst := some 6) (g := none) (by kernel_rfl) (by kernel_rfl) (by kernel_rfl) hx11 [5, 6] (L' := [(5, .slice A3 ([8, 7, 4] : List Int).length c4), (6, .slice A8 ([0, 2] : List Int).length c9)]) (by kernel_rfl) ?_
  clear hs; intro a hs
  obtain ⟨⟨t14, t15, t16⟩, hx17, H⟩ := bind_some H
  refine go_call hs (op := (Op.call { callee := (Callee.value (Operand.func 20)), args := #[(Operand.tmp 5), (Operand.tmp 6)], argTypes := #[22, 35] })) (ty := 36) (dst := some 7) (g := none) (by kernel_rfl) (by kernel_rfl) (by kernel_rfl) (f := 20) (args := #[.slice A3 ([8, 7, 4] : List Int).length c4, .slice A8 ([0, 2] : List Int).length c9]) (by kernel_rfl) (chain_Pack.calls A3 c4 ([8, 7, 4] : List Int) A8 c9 ([0, 2] : List Int) (t14, t15, t16) _ (Rd.of_own (hw.up 1)) (Rd.of_own (hw.up 0)) hx17) ?_
  rintro e wd20 ⟨A18, c19, rfl, hw21⟩
  refine ⟨_, rfl, ?_⟩
  replace hw := hw.call hw21
  intro a hs1
  replace hs : Slots a 22 [(7, .tuple #[.slice A18 t14.length c19, .int .i64 t15, .int .i64 t16])] := hs1.keep [7] (by kernel_rfl)
  clear hs1
  refine go_pvs 3 10 [1, 2, 3] hs (L' := [(1, .slice A18 t14.length c19), (2, .int .i64 t15), (3, .int .i64 t16)]) (by kernel_rfl) ?_ rfl
  clear hs; intro a hs
  refine go_end (by kernel_rfl) ?_
  refine hK2 _ _ ?_
  refine go_seq_k fun K23 hK23 => ?_
  have hJ1 : ∀ (v36 : Bool) (a : Act) (w : World), Slots a 22 [(0, .bool v36)] → St [] w0 w [own 23 (eI .u32) A18 c19 t14, own 3 (eI .i64) A8 c9 ([0, 2] : List Int), own 23 (eI .u32) A3 c4 ([8, 7, 4] : List Int)] → rivetlaw08_shown.j1 v36 = some r → K23 a w := by
    intro v36 a w hs hw H
    unfold rivetlaw08_shown.j1 at H
    refine hK23 _ _ ?_
    refine wp_ret ?_
    obtain rfl := Option.some.inj H
    refine ret1 (t := 0) (v := .bool v36) hs (by kernel_rfl) (by kernel_rfl) ?_
    exact ⟨rfl, hw.only 0⟩
  refine go_region ?_
  refine go_pvs 0 1 [2, 3, 11] hs (L' := [(2, .int .i64 t15), (3, .int .i64 t16), (11, .slice A18 t14.length c19)]) (by kernel_rfl) ?_ rfl
  clear hs; intro a hs
  obtain ⟨A24, c25, wd26, hx27, hw⟩ := n_lit (P := Try.prog) (L := [(2, .int .i64 t15), (3, .int .i64 t16), (11, .slice A18 t14.length c19)]) (t := 22) (ty := 22) (T := 23) (len := 3) (parts := #[(0, (Operand.const (Value.int IntKind.u32 524288))), (1, (Operand.const (Value.int IntKind.u32 7))), (2, (Operand.const (Value.int IntKind.u32 262145)))]) (z := .int .u32 0) (bytes := 4) (cells := #[.int .u32 524288, .int .u32 7, .int .u32 262145]) hw (eI .u32) ([524288, 7, 262145] : List Int) (by kernel_rfl) (by kernel_rfl) (by kernel_rfl) (by kernel_rfl) (by kernel_rfl) (by kernel_rfl) (by kernel_rfl)
  refine go_run hs (op := (Op.buildSlice 22 3 #[(0, (Operand.const (Value.int IntKind.u32 524288))), (1, (Operand.const (Value.int IntKind.u32 7))), (2, (Operand.const (Value.int IntKind.u32 262145)))])) (ty := 22) (dst := some 12) (g := none) (by kernel_rfl) (by kernel_rfl) (by kernel_rfl) hx27 [2, 3, 11, 12] (L' := [(2, .int .i64 t15), (3, .int .i64 t16), (11, .slice A18 t14.length c19), (12, .slice A24 ([524288, 7, 262145] : List Int).length c25)]) (by kernel_rfl) ?_
  clear hs; intro a hs
  obtain ⟨t30, hx31, H⟩ := bind_some H
  refine go_call hs (op := (Op.call { callee := (Callee.value (Operand.func 18)), args := #[(Operand.tmp 11), (Operand.tmp 12)], argTypes := #[22, 22] })) (ty := 4) (dst := some 13) (g := none) (by kernel_rfl) (by kernel_rfl) (by kernel_rfl) (f := 18) (args := #[.slice A18 t14.length c19, .slice A24 ([524288, 7, 262145] : List Int).length c25]) (by kernel_rfl) (rivetref05_Same.calls A18 c19 t14 A24 c25 ([524288, 7, 262145] : List Int) t30 _ (Rd.of_own (hw.up 1)) (Rd.of_own (hw.up 0)) hx31) ?_
  rintro e wd32 ⟨rfl, hw33⟩
  refine ⟨_, rfl, ?_⟩
  replace hw := hw.call hw33
  intro a hs1
  replace hs : Slots a 22 [(2, .int .i64 t15), (3, .int .i64 t16), (13, .bool t30)] := hs1.keep [2, 3, 13] (by kernel_rfl)
  clear hs1
  refine go_pvs 3 4 [2, 3, 14] hs (L' := [(2, .int .i64 t15), (3, .int .i64 t16), (14, .bool t30)]) (by kernel_rfl) ?_ rfl
  clear hs; intro a hs
  cases hb34 : t30
  · replace H := ite_f H (ff hb34)
    rw [hb34] at hs
    refine go_pvs 4 12 [0] hs (L' := [(0, .bool false)]) (by kernel_rfl) ?_ rfl
    clear hs; intro a hs
    refine go_end (by kernel_rfl) ?_
    replace hw := hw.up 3
    replace hw := hw.up 3
    replace hw := hw.up 3
    replace hw := hw.only 3
    exact hJ1 false _ _ (hs.keep [0] (by kernel_rfl)) hw H
  · replace H := ite_t H hb34
    rw [hb34] at hs
    refine go_pvs 4 8 [3, 18] hs (L' := [(3, .int .i64 t16), (18, .bool (t15 == 3))]) (by kernel_rfl) ?_ rfl
    clear hs; intro a hs
    cases hb35 : (t15 == 3)
    · replace H := ite_f H (beq_eq_false_iff_ne.1 hb35)
      rw [hb35] at hs
      refine go_pvs 8 12 [0] hs (L' := [(0, .bool false)]) (by kernel_rfl) ?_ rfl
      clear hs; intro a hs
      refine go_end (by kernel_rfl) ?_
      replace hw := hw.up 3
      replace hw := hw.up 3
      replace hw := hw.up 3
      replace hw := hw.only 3
      exact hJ1 false _ _ (hs.keep [0] (by kernel_rfl)) hw H
    · replace H := ite_t H (beq_iff_eq.1 hb35)
      rw [hb35] at hs
      refine go_pvs 8 12 [0] hs (L' := [(0, .bool (t16 == 0))]) (by kernel_rfl) ?_ rfl
      clear hs; intro a hs
      refine go_end (by kernel_rfl) ?_
      replace hw := hw.up 3
      replace hw := hw.up 3
      replace hw := hw.up 3
      replace hw := hw.only 3
      exact hJ1 (t16 == 0) _ _ (hs.keep [0] (by kernel_rfl)) hw H

end Go.Proofs.Ytpbfjcpndmmgoaa.T08
