/- YtpbfjcpndmmgoaaT05: Go functions told as plain ones, each with a proof that its call comes to what is told, part 1. Condition of each: that the plain function comes to a value. -/
import Derived.Test.YtpbfjcpndmmgoaaEC
import Derived.Test.YtpbfjcpndmmgoaaProg
namespace Go.Proofs.Ytpbfjcpndmmgoaa.T05
open Go Go.RowKit Go.Proofs.Ytpbfjcpndmmgoaa.E
set_option linter.unusedVariables false
set_option linter.unusedSimpArgs false
structure Smemory_Memory where
  w : Vector Int 4096
  n : Int
def eSmemory_Memory : Enc Smemory_Memory := ⟨4097, fun x => (x.w.toList.map (Value.int .u32)) ++ [.int .i64 x.n], (⟨(Vector.replicate 4096 0), 0⟩ : Smemory_Memory), by decide, fun x => by simp, fun x u hu => by simp at hu; rcases hu with ⟨_, _, rfl⟩ | rfl <;> rfl⟩
theorem eSmemory_Memory_is (x : Smemory_Memory) : eSmemory_Memory.enc x = (x.w.toList.map (Value.int .u32)) ++ [.int .i64 x.n] := rfl
def mSmemory_Memory (A : Option Addr) (x : Smemory_Memory) : Asn := own 68 eSmemory_Memory A 1 [x]
/-! slices.Clone[[]uint32,uint32]: function 39 -/
noncomputable def slices_Clone_uint32_uint32 (l0 : List Int) : Option (List Int) := (if ([] : List Int).length + l0.length ≤ 35184372088832 then some (([] : List Int) ++ l0) else none)
set_option maxRecDepth 100000 in
set_option maxHeartbeats 4000000 in
theorem slices_Clone_uint32_uint32.calls (A0 : Option Addr) (c0 : Nat) (l0 : List Int) (r : (List Int)) (w0 : World) (hr0 : Rd w0 (eI .u32) A0 c0 l0) (H : slices_Clone_uint32_uint32 l0 = some r) :
    Calls Try.prog 39 #[.slice A0 l0.length c0] w0 fun e w' => ∃ A_0 c_0, e = .returned (.slice A_0 r.length c_0) ∧ St [] w0 w' [own 23 (eI .u32) A_0 c_0 r] := by
  have hw : St [] w0 w0 [] := St.nil w0
  unfold slices_Clone_uint32_uint32 at H
  refine go_fn Try.func39 rfl 8 Try.ntmps39 [(0, .slice A0 l0.length c0)] (by kernel_rfl) rfl ?_
  intro a hs
  refine go_seq_k fun K1 hK1 => ?_
  refine go_region ?_
  refine go_pvs 0 1 [0] hs (L' := [(0, .slice A0 l0.length c0)]) (by kernel_rfl) ?_ rfl
  clear hs; intro a hs
  refine go_end (by kernel_rfl) ?_
  refine hK1 _ _ ?_
  refine go_seq_k fun K2 hK2 => ?_
  refine go_seq_k fun K3 hK3 => ?_
  refine go_region ?_
  refine go_pvs 0 1 [0, 3] hs (L' := [(0, .slice A0 l0.length c0), (3, .slice A0 l0.length c0)]) (by kernel_rfl) ?_ rfl
  clear hs; intro a hs
  have hnil := (hr0.old hw)
  rcases A0 with _ | ad4
  · obtain rfl := Rd.none hnil
    clear hnil
    replace H : some ([] : List Int) = some r := by simpa using H
    refine go_pvs 1 2 [0, 4] hs (L' := [(0, .slice none ([] : List Int).length c0), (4, .bool true)]) (by kernel_rfl) ?_ rfl
    clear hs; intro a hs
    refine go_end (by kernel_rfl) ?_
    refine hK3 _ _ ?_
    refine go_cond hs true (by kernel_rfl) (fun hc => ?_) (fun hc => ?_)
    · skip
      refine go_seq_k fun K5 hK5 => ?_
      refine go_region ?_
      refine go_pvs 0 1 [2] hs (L' := [(2, .slice none 0 0)]) (by kernel_rfl) ?_ rfl
      clear hs; intro a hs
      refine go_end (by kernel_rfl) ?_
      refine hK5 _ _ ?_
      refine wp_ret ?_
      refine th_ret ?_
      obtain rfl := Option.some.inj H
      replace hw := St.own_nil hw 23 (eI .u32)
      refine ret1 (t := 2) (v := .slice none 0 0) hs (by kernel_rfl) (by kernel_rfl) ?_
      exact ⟨none, 0, rfl, hw.only 1⟩
    · cases hc
  · clear hnil
    refine go_pvs 1 2 [0, 4] hs (L' := [(0, .slice (some ad4) l0.length c0), (4, .bool false)]) (by kernel_rfl) ?_ rfl
    clear hs; intro a hs
    refine go_end (by kernel_rfl) ?_
    refine hK3 _ _ ?_
    refine go_cond hs false (by kernel_rfl) (fun hc => ?_) (fun hc => ?_)
    · cases hc
    · skip
      refine wp_skip ?_
      refine hK2 _ _ ?_
      refine go_seq_k fun K7 hK7 => ?_
      refine go_region ?_
      obtain ⟨Aa8, cc9, wd10, hx11, hw⟩ := n_lit0 (P := Try.prog) (L := [(0, .slice (some ad4) l0.length c0), (4, .bool false)]) (t := 22) (ty := 22) (T := 23) hw (eI .u32) (by kernel_rfl) (by kernel_rfl)
      refine go_run hs (op := (Op.buildSlice 22 0 #[])) (ty := 22) (dst := some 5) (g := none) (by kernel_rfl) (by kernel_rfl) (by kernel_rfl) hx11 [0, 5] (L' := [(0, .slice (some ad4) l0.length c0), (5, .slice Aa8 ([] : List Int).length cc9)]) (by kernel_rfl) ?_
      clear hs; intro a hs
      refine go_pvs 1 2 [5, 6] hs (L' := [(5, .slice Aa8 ([] : List Int).length cc9), (6, .slice (some ad4) l0.length c0)]) (by kernel_rfl) ?_ rfl
      clear hs; intro a hs
      obtain ⟨hp13, H⟩ := ite_only H
      have hsrc18 : Src Try.prog (eI .u32).sz 22 (.slice (some ad4) l0.length c0) l0.length (l0.flatMap (eI .u32).enc) _ := (Src.of_rd (E := (eI .u32)) (e' := 23) (by kernel_rfl) (hr0.old hw))
      obtain ⟨Aa14, cc15, wd16, hx17, hw⟩ := x_append (P := Try.prog) (L := [(5, .slice Aa8 ([] : List Int).length cc9), (6, .slice (some ad4) l0.length c0)]) (t := 22) (tx := 22) (ty := 22) (x := (Operand.tmp 5)) (y := (Operand.tmp 6)) (z := .int .u32 0) (bytes := 4) (l2 := l0) hw (by kernel_rfl) (by kernel_rfl) (by kernel_rfl) (by kernel_rfl) (by kernel_rfl) hsrc18 (by omega) (by omega)
      refine go_run hs (op := (Op.call { callee := (Callee.builtin Builtin.append), args := #[(Operand.tmp 5), (Operand.tmp 6)], argTypes := #[22, 22] })) (ty := 22) (dst := some 7) (g := none) (by kernel_rfl) (by kernel_rfl) (by kernel_rfl) hx17 [7] (L' := [(7, .slice Aa14 (([] : List Int) ++ l0).length cc15)]) (by kernel_rfl) ?_
      clear hs; intro a hs
      refine go_pvs 3 4 [2] hs (L' := [(2, .slice Aa14 (([] : List Int) ++ l0).length cc15)]) (by kernel_rfl) ?_ rfl
      clear hs; intro a hs
      refine go_end (by kernel_rfl) ?_
      refine hK7 _ _ ?_
      refine wp_ret ?_
      obtain rfl := Option.some.inj H
      refine ret1 (t := 2) (v := .slice Aa14 (([] : List Int) ++ l0).length cc15) hs (by kernel_rfl) (by kernel_rfl) ?_
      exact ⟨Aa14, cc15, rfl, hw.only 1⟩

/-! rivet/rivetref05.Same: function 18 -/
noncomputable def rivetref05_Same.j1 : Option Bool := some true
noncomputable def rivetref05_Same.b9 (l0 : List Int) (l1 : List Int) (v10 : Int) : Option (Int ⊕ (Ex Bool Unit)) := (if v10 < (l0.length : Int) then (if 0 ≤ v10 ∧ v10 < (l0.length : Int) then (if 0 ≤ v10 ∧ v10 < (l1.length : Int) then (if (ix (eI .u32).d l0 v10) = (ix (eI .u32).d l1 v10) then some (.inl (w64 (v10 + 1))) else some (.inr (.ret false))) else none) else none) else some (.inr (.done ())))
noncomputable def rivetref05_Same (l0 : List Int) (l1 : List Int) : Option Bool := (if (l0.length : Int) = (l1.length : Int) then ((loopO (fun (σ : Int) => rivetref05_Same.b9 l0 l1 σ) 0).bind fun e => match e with | .ret x => some x | .done e => rivetref05_Same.j1) else some false)
set_option maxRecDepth 100000 in
set_option maxHeartbeats 4000000 in
theorem rivetref05_Same.calls (A0 : Option Addr) (c0 : Nat) (l0 : List Int) (A1 : Option Addr) (c1 : Nat) (l1 : List Int) (r : Bool) (w0 : World) (hr0 : Rd w0 (eI .u32) A0 c0 l0) (hr1 : Rd w0 (eI .u32) A1 c1 l1) (H : rivetref05_Same l0 l1 = some r) :
    Calls Try.prog 18 #[.slice A0 l0.length c0, .slice A1 l1.length c1] w0 fun e w' => e = .returned (.bool r) ∧ St [] w0 w' [] := by
  have hw : St [] w0 w0 [] := St.nil w0
  unfold rivetref05_Same at H
  refine go_fn Try.func18 rfl 26 Try.ntmps18 [(0, .slice A0 l0.length c0), (1, .slice A1 l1.length c1)] (by kernel_rfl) rfl ?_
  intro a hs
  refine go_seq_k fun K1 hK1 => ?_
  refine go_region ?_
  refine go_pvs 0 1 [0, 1] hs (L' := [(0, .slice A0 l0.length c0), (1, .slice A1 l1.length c1)]) (by kernel_rfl) ?_ rfl
  clear hs; intro a hs
  refine go_end (by kernel_rfl) ?_
  refine hK1 _ _ ?_
  refine go_seq_k fun K2 hK2 => ?_
  refine go_seq_k fun K3 hK3 => ?_
  refine go_region ?_
  refine go_pvs 0 5 [0, 1, 10] hs (L' := [(0, .slice A0 l0.length c0), (1, .slice A1 l1.length c1), (10, .bool ((l0.length : Int) != (l1.length : Int)))]) (by kernel_rfl) ?_ rfl
  clear hs; intro a hs
  refine go_end (by kernel_rfl) ?_
  refine hK3 _ _ ?_
  refine go_cond hs ((l0.length : Int) != (l1.length : Int)) (by kernel_rfl) (fun hc => ?_) (fun hc => ?_)
  · replace H := ite_f H (bne_iff_ne.1 hc)
    have hb4 := hc
    rw [hb4] at hs
    refine go_seq_k fun K5 hK5 => ?_
    refine go_region ?_
    refine go_pvs 0 1 [4] hs (L' := [(4, .bool false)]) (by kernel_rfl) ?_ rfl
    clear hs; intro a hs
    refine go_end (by kernel_rfl) ?_
    refine hK5 _ _ ?_
    refine wp_ret ?_
    refine th_ret ?_
    obtain rfl := Option.some.inj H
    refine ret1 (t := 4) (v := .bool false) hs (by kernel_rfl) (by kernel_rfl) ?_
    exact ⟨rfl, hw.only 0⟩
  · replace H := ite_t H (bne_eq_false_iff_eq.1 hc)
    have hb6 := hc
    rw [hb6] at hs
    refine wp_skip ?_
    refine hK2 _ _ ?_
    refine go_seq_k fun K7 hK7 => ?_
    refine go_seq_k fun K8 hK8 => ?_
    refine go_region ?_
    refine go_pvs 0 1 [0, 1, 5] hs (L' := [(0, .slice A0 l0.length c0), (1, .slice A1 l1.length c1), (5, .int .i64 0)]) (by kernel_rfl) ?_ rfl
    clear hs; intro a hs
    refine go_end (by kernel_rfl) ?_
    refine hK8 _ _ ?_
    refine wp_block ?_
    obtain ⟨e9, hl9, HX9⟩ := bind_some H
    have hJ1 : ∀ (a : Act) (w : World), Slots a 26 [] → St [] w0 w [] → rivetref05_Same.j1 = some r → K7 a w := by
      intro a w hs hw H
      unfold rivetref05_Same.j1 at H
      refine hK7 _ _ ?_
      refine go_seq_k fun K24 hK24 => ?_
      refine go_region ?_
      refine go_pvs 0 1 [4] hs (L' := [(4, .bool true)]) (by kernel_rfl) ?_ rfl
      clear hs; intro a hs
      refine go_end (by kernel_rfl) ?_
      refine hK24 _ _ ?_
      refine wp_ret ?_
      obtain rfl := Option.some.inj H
      refine ret1 (t := 4) (v := .bool true) hs (by kernel_rfl) (by kernel_rfl) ?_
      exact ⟨rfl, hw.only 0⟩
    clear H
    refine go_loop (σ := Int) (fun σ a w => Slots a 26 [(0, .slice A0 l0.length c0), (1, .slice A1 l1.length c1), (5, .int .i64 σ)] ∧ St [] w0 w []) hl9 (by exact ⟨hs.keep [0, 1, 5] (by kernel_rfl), hw⟩) ?_
    rintro v10 a w ⟨hs, hw⟩ o H hr9
    replace hs : Slots a 26 [(0, .slice A0 l0.length c0), (1, .slice A1 l1.length c1), (5, .int .i64 v10)] := hs
    replace hw : St [] w0 w [] := hw
    replace H : rivetref05_Same.b9 l0 l1 v10 = some o := H
    unfold rivetref05_Same.b9 at H
    refine go_seq_k fun K11 hK11 => ?_
    refine go_seq_k fun K12 hK12 => ?_
    refine go_region ?_
    refine go_pvs 0 4 [0, 1, 5, 14] hs (L' := [(0, .slice A0 l0.length c0), (1, .slice A1 l1.length c1), (5, .int .i64 v10), (14, .bool (decide (v10 < (l0.length : Int))))]) (by kernel_rfl) ?_ rfl
    clear hs; intro a hs
    refine go_end (by kernel_rfl) ?_
    refine hK12 _ _ ?_
    refine go_cond hs (decide (v10 < (l0.length : Int))) (by kernel_rfl) (fun hc => ?_) (fun hc => ?_)
    · replace H := ite_t H (of_decide_eq_true hc)
      have hb13 := hc
      rw [hb13] at hs
      refine wp_skip ?_
      refine hK11 _ _ ?_
      refine go_seq_k fun K14 hK14 => ?_
      refine wp_block ?_
      refine go_seq_k fun K15 hK15 => ?_
      refine q_region (by kernel_rfl) (by kernel_rfl) ?_
      refine q_pvs 0 2 [0, 1, 5, 17, 18] hs (L' := [(0, .slice A0 l0.length c0), (1, .slice A1 l1.length c1), (5, .int .i64 v10), (17, .slice A0 l0.length c0), (18, .int .i64 v10)]) (by kernel_rfl) ?_ rfl
      clear hs; intro a hs
      obtain ⟨hp16, H⟩ := ite_only H
      obtain ⟨ad17, rfl⟩ := (hr0.old hw).some hp16.1 hp16.2
      refine q_run hs (op := (Op.indexAddr 22 (Operand.tmp 17) (Operand.tmp 18))) (ty := 0) (dst := some 19) (g := none) (by kernel_rfl) (by kernel_rfl) (by kernel_rfl) (fun wx hbx => (x_idx (T := 23) (sz := 1) (a := ad17) (n := l0.length) (cap := c0) (k := .i64) (i := v10) (by kernel_rfl) (by kernel_rfl) (by kernel_rfl) (by kernel_rfl) hp16.1 hp16.2)) [0, 1, 5, 19] (L' := [(0, .slice (some ad17) l0.length c0), (1, .slice A1 l1.length c1), (5, .int .i64 v10), (19, .pointer (some (ad17.add (v10.toNat * 1))))]) (by kernel_rfl) ?_
      clear hs; intro a hs
      refine q_run hs (op := (Op.load 23 (Operand.tmp 19))) (ty := 23) (dst := some 20) (g := none) (by kernel_rfl) (by kernel_rfl) (by kernel_rfl) (fun wx hbx => (x_ld (E := (eI .u32)) (off := 0) (p := ad17.add (v10.toNat * 1)) (v := .int .u32 (ix (eI .u32).d l0 v10)) ((hr0.old hw).below hbx) hp16.1 hp16.2 (by kernel_rfl) rfl (by kernel_rfl) (by kernel_rfl))) [0, 1, 5, 20] (L' := [(0, .slice (some ad17) l0.length c0), (1, .slice A1 l1.length c1), (5, .int .i64 v10), (20, .int .u32 (ix (eI .u32).d l0 v10))]) (by kernel_rfl) ?_
      clear hs; intro a hs
      refine q_pvs 4 6 [0, 1, 5, 20, 21, 22] hs (L' := [(0, .slice (some ad17) l0.length c0), (1, .slice A1 l1.length c1), (5, .int .i64 v10), (20, .int .u32 (ix (eI .u32).d l0 v10)), (21, .slice A1 l1.length c1), (22, .int .i64 v10)]) (by kernel_rfl) ?_ rfl
      clear hs; intro a hs
      obtain ⟨hp18, H⟩ := ite_only H
      obtain ⟨ad19, rfl⟩ := (hr1.old hw).some hp18.1 hp18.2
      refine q_run hs (op := (Op.indexAddr 22 (Operand.tmp 21) (Operand.tmp 22))) (ty := 0) (dst := some 23) (g := none) (by kernel_rfl) (by kernel_rfl) (by kernel_rfl) (fun wx hbx => (x_idx (T := 23) (sz := 1) (a := ad19) (n := l1.length) (cap := c1) (k := .i64) (i := v10) (by kernel_rfl) (by kernel_rfl) (by kernel_rfl) (by kernel_rfl) hp18.1 hp18.2)) [0, 1, 5, 20, 23] (L' := [(0, .slice (some ad17) l0.length c0), (1, .slice (some ad19) l1.length c1), (5, .int .i64 v10), (20, .int .u32 (ix (eI .u32).d l0 v10)), (23, .pointer (some (ad19.add (v10.toNat * 1))))]) (by kernel_rfl) ?_
      clear hs; intro a hs
      refine q_run hs (op := (Op.load 23 (Operand.tmp 23))) (ty := 23) (dst := some 24) (g := none) (by kernel_rfl) (by kernel_rfl) (by kernel_rfl) (fun wx hbx => (x_ld (E := (eI .u32)) (off := 0) (p := ad19.add (v10.toNat * 1)) (v := .int .u32 (ix (eI .u32).d l1 v10)) ((hr1.old hw).below hbx) hp18.1 hp18.2 (by kernel_rfl) rfl (by kernel_rfl) (by kernel_rfl))) [0, 1, 5, 20, 24] (L' := [(0, .slice (some ad17) l0.length c0), (1, .slice (some ad19) l1.length c1), (5, .int .i64 v10), (20, .int .u32 (ix (eI .u32).d l0 v10)), (24, .int .u32 (ix (eI .u32).d l1 v10))]) (by kernel_rfl) ?_
      clear hs; intro a hs
      refine q_pvs 8 9 [0, 1, 5, 25] hs (L' := [(0, .slice (some ad17) l0.length c0), (1, .slice (some ad19) l1.length c1), (5, .int .i64 v10), (25, .bool ((ix (eI .u32).d l0 v10) != (ix (eI .u32).d l1 v10)))]) (by kernel_rfl) ?_ rfl
      clear hs; intro a hs
      refine q_end (by kernel_rfl) ?_
      intro wq hbq
      replace hw := hw.behind hbq
      refine hK15 _ _ ?_
      refine go_cond hs ((ix (eI .u32).d l0 v10) != (ix (eI .u32).d l1 v10)) (by kernel_rfl) (fun hc => ?_) (fun hc => ?_)
      · replace H := ite_f H (bne_iff_ne.1 hc)
        have hb20 := hc
        rw [hb20] at hs
        refine go_seq_k fun K21 hK21 => ?_
        refine go_region ?_
        refine go_pvs 0 1 [4] hs (L' := [(4, .bool false)]) (by kernel_rfl) ?_ rfl
        clear hs; intro a hs
        refine go_end (by kernel_rfl) ?_
        refine hK21 _ _ ?_
        refine wp_ret ?_
        refine ib_ret ?_
        refine th_ret ?_
        refine th_ret ?_
        refine ib_ret ?_
        refine th_ret ?_
        rw [← hr9 _ (Option.some.inj H).symm] at HX9
        replace H : some false = some r := HX9
        obtain rfl := Option.some.inj H
        refine ret1 (t := 4) (v := .bool false) hs (by kernel_rfl) (by kernel_rfl) ?_
        exact ⟨rfl, hw.only 0⟩
      · replace H := ite_t H (bne_eq_false_iff_eq.1 hc)
        have hb22 := hc
        rw [hb22] at hs
        refine wp_skip ?_
        refine ib_norm ?_
        refine hK14 _ _ ?_
        refine go_region ?_
        refine go_pvs 0 3 [0, 1, 5] hs (L' := [(0, .slice (some ad17) l0.length c0), (1, .slice (some ad19) l1.length c1), (5, .int .i64 (w64 (v10 + 1)))]) (by kernel_rfl) ?_ rfl
        clear hs; intro a hs
        refine go_end (by kernel_rfl) ?_
        replace hw := hw.only 0
        exact round_end (w64 (v10 + 1)) (Option.some.inj H).symm ⟨hs.keep [0, 1, 5] (by kernel_rfl), hw⟩
    · replace H := ite_f H (of_decide_eq_false hc)
      have hb23 := hc
      rw [hb23] at hs
      refine wp_exit ?_
      refine th_exit ?_
      refine th_exit ?_
      refine in_block ?_
      replace hw := hw.only 0
      rw [← hr9 _ (Option.some.inj H).symm] at HX9
      exact hJ1 _ _ (hs.keep [] (by kernel_rfl)) hw HX9

/-! rivet/memory.New: function 15 -/
noncomputable def memory_New.j2 (a0 : Int) : Option ((Option Smemory_Memory) × Int) := some ((some (⟨(Vector.replicate 4096 0), a0⟩ : Smemory_Memory)), 0)
noncomputable def memory_New.j1 (a0 : Int) (v5 : Bool) : Option ((Option Smemory_Memory) × Int) := (if v5 = true then some ((none : Option Smemory_Memory), 2) else memory_New.j2 a0)
noncomputable def memory_New (a0 : Int) : Option ((Option Smemory_Memory) × Int) := (if a0 < 0 then memory_New.j1 a0 true else memory_New.j1 a0 (decide (a0 > 4096)))
set_option maxRecDepth 100000 in
set_option maxHeartbeats 4000000 in
theorem memory_New.calls (a0 : Int) (r : (Option Smemory_Memory) × Int) (w0 : World) (H : memory_New a0 = some r) :
    Calls Try.prog 15 #[.int .i64 a0] w0 fun e w' => ∃ A_0, e = .returned (.tuple #[.pointer A_0, .int .i64 r.2]) ∧ St [] w0 w' [oM mSmemory_Memory A_0 r.1] := by
  have hw : St [] w0 w0 [] := St.nil w0
  unfold memory_New at H
  refine go_fn Try.func15 rfl 13 Try.ntmps15 [(0, .int .i64 a0)] (by kernel_rfl) rfl ?_
  intro a hs
  refine go_seq_k fun K1 hK1 => ?_
  refine go_region ?_
  refine go_pvs 0 2 [0] hs (L' := [(0, .int .i64 a0)]) (by kernel_rfl) ?_ rfl
  clear hs; intro a hs
  refine go_end (by kernel_rfl) ?_
  refine hK1 _ _ ?_
  refine go_seq_k fun K2 hK2 => ?_
  have hJ2 : ∀ (a : Act) (w : World), Slots a 13 [(0, .int .i64 a0)] → St [] w0 w [] → memory_New.j2 a0 = some r → K2 a w := by
    intro a w hs hw H
    unfold memory_New.j2 at H
    refine hK2 _ _ ?_
    refine go_seq_k fun K10 hK10 => ?_
    refine go_region ?_
    refine go_pvs 0 2 [11] hs (L' := [(11, .agg (eSmemory_Memory.enc (⟨(Vector.replicate 4096 0), a0⟩ : Smemory_Memory)).toArray)]) (by kernel_rfl) ?_ rfl
    clear hs; intro a hs
    obtain ⟨ad11, wd12, hx13, hw⟩ := x_box1 (P := Try.prog) (L := [(11, .agg (eSmemory_Memory.enc (⟨(Vector.replicate 4096 0), a0⟩ : Smemory_Memory)).toArray)]) (elem := 68) (v := (Operand.tmp 11)) (ty := 26) hw eSmemory_Memory (⟨(Vector.replicate 4096 0), a0⟩ : Smemory_Memory) (by kernel_rfl)
    refine go_run hs (op := (Op.box 68 (Operand.tmp 11))) (ty := 26) (dst := some 12) (g := none) (by kernel_rfl) (by kernel_rfl) (by kernel_rfl) hx13 [12] (L' := [(12, .pointer (some ad11))]) (by kernel_rfl) ?_
    clear hs; intro a hs
    refine go_pvs 3 5 [2, 3] hs (L' := [(2, .pointer (some ad11)), (3, .int .i64 0)]) (by kernel_rfl) ?_ rfl
    clear hs; intro a hs
    refine go_end (by kernel_rfl) ?_
    refine hK10 _ _ ?_
    refine wp_ret ?_
    obtain rfl := Option.some.inj H
    refine ret2 (t1 := 2) (v1 := .pointer (some ad11)) (t2 := 3) (v2 := .int .i64 0) hs (by kernel_rfl) (by kernel_rfl) (by kernel_rfl) ?_
    exact ⟨(some ad11), rfl, hw.only 1⟩
  refine go_seq_k fun K3 hK3 => ?_
  have hJ1 : ∀ (v5 : Bool) (a : Act) (w : World), Slots a 13 [(0, .int .i64 a0), (9, .bool v5)] → St [] w0 w [] → memory_New.j1 a0 v5 = some r → K3 a w := by
    intro v5 a w hs hw H
    unfold memory_New.j1 at H
    refine hK3 _ _ ?_
    refine go_cond hs v5 (by kernel_rfl) (fun hc => ?_) (fun hc => ?_)
    · replace H := ite_t H hc
      have hb6 := hc
      rw [hb6] at hs
      refine go_seq_k fun K7 hK7 => ?_
      refine go_region ?_
      refine go_pvs 0 2 [2, 3] hs (L' := [(2, .pointer none), (3, .int .i64 2)]) (by kernel_rfl) ?_ rfl
      clear hs; intro a hs
      refine go_end (by kernel_rfl) ?_
      refine hK7 _ _ ?_
      refine wp_ret ?_
      refine th_ret ?_
      obtain rfl := Option.some.inj H
      replace hw := St.oM_nil mSmemory_Memory hw
      refine ret2 (t1 := 2) (v1 := .pointer none) (t2 := 3) (v2 := .int .i64 2) hs (by kernel_rfl) (by kernel_rfl) (by kernel_rfl) ?_
      exact ⟨none, rfl, hw.only 1⟩
    · replace H := ite_f H (ff hc)
      have hb9 := hc
      rw [hb9] at hs
      refine wp_skip ?_
      replace hw := hw.only 0
      exact hJ2 _ _ (hs.keep [0] (by kernel_rfl)) hw H
  refine go_region ?_
  refine go_pvs 0 3 [0, 6] hs (L' := [(0, .int .i64 a0), (6, .bool (decide (a0 < 0)))]) (by kernel_rfl) ?_ rfl
  clear hs; intro a hs
  cases hb4 : (decide (a0 < 0))
  · replace H := ite_f H (of_decide_eq_false hb4)
    rw [hb4] at hs
    refine go_pvs 3 6 [0, 9] hs (L' := [(0, .int .i64 a0), (9, .bool (decide (a0 > 4096)))]) (by kernel_rfl) ?_ rfl
    clear hs; intro a hs
    refine go_end (by kernel_rfl) ?_
    replace hw := hw.only 0
    exact hJ1 (decide (a0 > 4096)) _ _ (hs.keep [0, 9] (by kernel_rfl)) hw H
  · replace H := ite_t H (of_decide_eq_true hb4)
    rw [hb4] at hs
    refine go_pvs 3 6 [0, 9] hs (L' := [(0, .int .i64 a0), (9, .bool true)]) (by kernel_rfl) ?_ rfl
    clear hs; intro a hs
    refine go_end (by kernel_rfl) ?_
    replace hw := hw.only 0
    exact hJ1 true _ _ (hs.keep [0, 9] (by kernel_rfl)) hw H

/-! (*rivet/memory.Memory).Word: function 29 -/
noncomputable def memory_Memory_Word (x0 : Smemory_Memory) (a1 : Int) : Option (Int × Int × Smemory_Memory) := (if (a1.tmod 4) = 0 then (if (w64 (wu32 (a1.tdiv 4))) ≥ x0.n then some (0, 3, x0) else (if 0 ≤ (wu32 (a1.tdiv 4)) ∧ (wu32 (a1.tdiv 4)) < ((4096 : Nat) : Int) then (nm (vx 0 x0.w (wu32 (a1.tdiv 4) : Int).toNat) fun y26 => some (y26, 0, x0)) else none)) else some (0, 4, x0))
set_option maxRecDepth 100000 in
set_option maxHeartbeats 4000000 in
theorem memory_Memory_Word.calls (ks0 : List Nat) (A0 : Option Addr) (x0 : Smemory_Memory) (a1 : Int) (r : Int × Int × Smemory_Memory) (w0 : World) (hw : St ks0 w0 w0 [mSmemory_Memory A0 x0]) (H : memory_Memory_Word x0 a1 = some r) :
    Calls Try.prog 29 #[.pointer A0, .int .u32 a1] w0 fun e w' => e = .returned (.tuple #[.int .u32 r.1, .int .i64 r.2.1]) ∧ St ks0 w0 w' [mSmemory_Memory A0 r.2.2] := by
  unfold memory_Memory_Word at H
  refine go_fn Try.func29 rfl 21 Try.ntmps29 [(0, .pointer A0), (1, .int .u32 a1)] (by kernel_rfl) rfl ?_
  intro a hs
  obtain ⟨g1, hAg, hwg⟩ := St.one hw
  clear hw; subst hAg; have hw := hwg; clear hwg
  refine go_seq_k fun K2 hK2 => ?_
  refine go_region ?_
  refine go_pvs 0 2 [0, 1] hs (L' := [(0, .pointer (some (⟨g1, 0, none⟩ : Addr))), (1, .int .u32 a1)]) (by kernel_rfl) ?_ rfl
  clear hs; intro a hs
  refine go_end (by kernel_rfl) ?_
  refine hK2 _ _ ?_
  refine go_seq_k fun K3 hK3 => ?_
  refine go_region ?_
  refine go_pvs 0 2 [9, 10] hs (L' := [(9, .pointer (some (⟨g1, 0, none⟩ : Addr))), (10, .int .u32 a1)]) (by kernel_rfl) ?_ rfl
  clear hs; intro a hs
  refine go_inline_k hs (op := (Op.call { callee := (Callee.value (Operand.func 42)), args := #[(Operand.tmp 9), (Operand.tmp 10), (Operand.const (Value.int IntKind.u32 4))], argTypes := #[26, 23, 23] })) (ty := 74) (dst := some 11) (g := none) (by kernel_rfl) (by kernel_rfl) (by kernel_rfl) (f := 42) (args := #[.pointer (some (⟨g1, 0, none⟩ : Addr)), .int .u32 a1, .int .u32 4]) (by kernel_rfl) (fun KR4 hKR4 => ?_)
  refine go_fn Try.func42 rfl 28 Try.ntmps42 [(0, .pointer (some (⟨g1, 0, none⟩ : Addr))), (1, .int .u32 a1), (2, .int .u32 4)] (by kernel_rfl) rfl ?_
  clear hs; intro a hs
  refine go_seq_k fun K5 hK5 => ?_
  refine go_region ?_
  refine go_pvs 0 2 [0, 1, 2] hs (L' := [(0, .pointer (some (⟨g1, 0, none⟩ : Addr))), (1, .int .u32 a1), (2, .int .u32 4)]) (by kernel_rfl) ?_ rfl
  clear hs; intro a hs
  refine go_end (by kernel_rfl) ?_
  refine hK5 _ _ ?_
  refine go_seq_k fun K6 hK6 => ?_
  refine wp_block ?_
  refine go_seq_k fun K7 hK7 => ?_
  refine go_region ?_
  refine go_pvs 0 5 [0, 1, 8] hs (L' := [(0, .pointer (some (⟨g1, 0, none⟩ : Addr))), (1, .int .u32 a1), (8, .bool ((a1.tmod 4) != 0))]) (by kernel_rfl) ?_ rfl
  clear hs; intro a hs
  refine go_end (by kernel_rfl) ?_
  refine hK7 _ _ ?_
  refine go_cond hs ((a1.tmod 4) != 0) (by kernel_rfl) (fun hc => ?_) (fun hc => ?_)
  · replace H := ite_f H (bne_iff_ne.1 hc)
    have hb8 := hc
    rw [hb8] at hs
    refine go_seq_k fun K9 hK9 => ?_
    refine go_region ?_
    refine go_pvs 0 2 [6, 7] hs (L' := [(6, .pointer none), (7, .int .i64 4)]) (by kernel_rfl) ?_ rfl
    clear hs; intro a hs
    refine go_end (by kernel_rfl) ?_
    refine hK9 _ _ ?_
    refine wp_ret ?_
    refine ib_ret ?_
    refine th_ret ?_
    refine ret2 (t1 := 6) (v1 := .pointer none) (t2 := 7) (v2 := .int .i64 4) hs (by kernel_rfl) (by kernel_rfl) (by kernel_rfl) ?_
    refine ⟨_, rfl, ?_⟩
    refine hKR4 _ _ ?_
    intro a hs1
    have hs : Slots a _ [(11, .tuple #[.pointer none, .int .i64 4])] := hs1.keep [11] (by kernel_rfl)
    clear hs1
    refine go_pvs 3 8 [6, 7] hs (L' := [(6, .pointer none), (7, .int .i64 4)]) (by kernel_rfl) ?_ rfl
    clear hs; intro a hs
    refine go_end (by kernel_rfl) ?_
    refine hK3 _ _ ?_
    refine go_seq_k fun K10 hK10 => ?_
    refine go_seq_k fun K11 hK11 => ?_
    refine go_region ?_
    refine go_pvs 0 2 [6, 7, 15] hs (L' := [(6, .pointer none), (7, .int .i64 4), (15, .bool true)]) (by kernel_rfl) ?_ rfl
    clear hs; intro a hs
    refine go_end (by kernel_rfl) ?_
    refine hK11 _ _ ?_
    refine go_cond hs true (by kernel_rfl) (fun hc => ?_) (fun hc => ?_)
    · skip
      refine go_seq_k fun K12 hK12 => ?_
      refine go_region ?_
      refine go_pvs 0 3 [4, 5] hs (L' := [(4, .int .u32 0), (5, .int .i64 4)]) (by kernel_rfl) ?_ rfl
      clear hs; intro a hs
      refine go_end (by kernel_rfl) ?_
      refine hK12 _ _ ?_
      refine wp_ret ?_
      refine th_ret ?_
      obtain rfl := Option.some.inj H
      refine ret2 (t1 := 4) (v1 := .int .u32 0) (t2 := 5) (v2 := .int .i64 4) hs (by kernel_rfl) (by kernel_rfl) (by kernel_rfl) ?_
      exact ⟨rfl, hw.only 1⟩
    · cases hc
  · replace H := ite_t H (bne_eq_false_iff_eq.1 hc)
    have hb13 := hc
    rw [hb13] at hs
    refine go_seq_k fun K14 hK14 => ?_
    refine go_region ?_
    refine go_pvs 0 6 [0, 1, 16, 19] hs (L' := [(0, .pointer (some (⟨g1, 0, none⟩ : Addr))), (1, .int .u32 a1), (16, .int .i64 (w64 (wu32 (a1.tdiv 4)))), (19, .pointer (some (((⟨g1, 0, none⟩ : Addr) : Addr).add 4096)))]) (by kernel_rfl) ?_ rfl
    clear hs; intro a hs
    refine go_run hs (op := (Op.load 3 (Operand.tmp 19))) (ty := 3) (dst := some 20) (g := none) (by kernel_rfl) (by kernel_rfl) (by kernel_rfl) (x_ld (E := eSmemory_Memory) (off := 4096) (p := ((⟨g1, 0, none⟩ : Addr) : Addr).add 4096) (v := .int .i64 x0.n) (Rd.of_own (hw.up 0)) (one_ok x0).1 (one_ok x0).2 (by kernel_rfl) (one_off _ _ _) (by kernel_rfl) ((vafter (cs := eSmemory_Memory.enc x0) (pre := []) (post := [.int .i64 x0.n]) (f := (fun j : Nat => .int .u32 (vx 0 x0.w j))) (n := 4096) (o := 4096) (j := 0) (by rw [List.nil_append, ← vec_range 0 x0.w (Value.int .u32)]; rfl) rfl).trans (by kernel_rfl))) [0, 1, 16, 20] (L' := [(0, .pointer (some (⟨g1, 0, none⟩ : Addr))), (1, .int .u32 a1), (16, .int .i64 (w64 (wu32 (a1.tdiv 4)))), (20, .int .i64 x0.n)]) (by kernel_rfl) ?_
    clear hs; intro a hs
    refine go_pvs 7 9 [0, 1, 13] hs (L' := [(0, .pointer (some (⟨g1, 0, none⟩ : Addr))), (1, .int .u32 a1), (13, .bool (decide ((w64 (wu32 (a1.tdiv 4))) ≥ x0.n)))]) (by kernel_rfl) ?_ rfl
    clear hs; intro a hs
    refine go_end (by kernel_rfl) ?_
    refine hK14 _ _ ?_
    refine go_cond hs (decide ((w64 (wu32 (a1.tdiv 4))) ≥ x0.n)) (by kernel_rfl) (fun hc => ?_) (fun hc => ?_)
    · replace H := ite_t H (of_decide_eq_true hc)
      have hb15 := hc
      rw [hb15] at hs
      refine go_seq_k fun K16 hK16 => ?_
      refine go_region ?_
      refine go_pvs 0 2 [6, 7] hs (L' := [(6, .pointer none), (7, .int .i64 3)]) (by kernel_rfl) ?_ rfl
      clear hs; intro a hs
      refine go_end (by kernel_rfl) ?_
      refine hK16 _ _ ?_
      refine wp_ret ?_
      refine ib_ret ?_
      refine th_ret ?_
      refine ret2 (t1 := 6) (v1 := .pointer none) (t2 := 7) (v2 := .int .i64 3) hs (by kernel_rfl) (by kernel_rfl) (by kernel_rfl) ?_
      refine ⟨_, rfl, ?_⟩
      refine hKR4 _ _ ?_
      intro a hs1
      have hs : Slots a _ [(11, .tuple #[.pointer none, .int .i64 3])] := hs1.keep [11] (by kernel_rfl)
      clear hs1
      refine go_pvs 3 8 [6, 7] hs (L' := [(6, .pointer none), (7, .int .i64 3)]) (by kernel_rfl) ?_ rfl
      clear hs; intro a hs
      refine go_end (by kernel_rfl) ?_
      refine hK3 _ _ ?_
      refine go_seq_k fun K17 hK17 => ?_
      refine go_seq_k fun K18 hK18 => ?_
      refine go_region ?_
      refine go_pvs 0 2 [6, 7, 15] hs (L' := [(6, .pointer none), (7, .int .i64 3), (15, .bool true)]) (by kernel_rfl) ?_ rfl
      clear hs; intro a hs
      refine go_end (by kernel_rfl) ?_
      refine hK18 _ _ ?_
      refine go_cond hs true (by kernel_rfl) (fun hc => ?_) (fun hc => ?_)
      · skip
        refine go_seq_k fun K19 hK19 => ?_
        refine go_region ?_
        refine go_pvs 0 3 [4, 5] hs (L' := [(4, .int .u32 0), (5, .int .i64 3)]) (by kernel_rfl) ?_ rfl
        clear hs; intro a hs
        refine go_end (by kernel_rfl) ?_
        refine hK19 _ _ ?_
        refine wp_ret ?_
        refine th_ret ?_
        obtain rfl := Option.some.inj H
        refine ret2 (t1 := 4) (v1 := .int .u32 0) (t2 := 5) (v2 := .int .i64 3) hs (by kernel_rfl) (by kernel_rfl) (by kernel_rfl) ?_
        exact ⟨rfl, hw.only 1⟩
      · cases hc
    · replace H := ite_f H (of_decide_eq_false hc)
      have hb20 := hc
      rw [hb20] at hs
      refine wp_skip ?_
      refine ib_norm ?_
      refine hK6 _ _ ?_
      refine go_seq_k fun K21 hK21 => ?_
      refine go_region ?_
      refine go_pvs 0 5 [24, 26] hs (L' := [(24, .int .u32 (wu32 (a1.tdiv 4))), (26, .pointer (some (((⟨g1, 0, none⟩ : Addr) : Addr).add 0)))]) (by kernel_rfl) ?_ rfl
      clear hs; intro a hs
      obtain ⟨hp22, H⟩ := ite_only H
      refine go_run hs (op := (Op.indexAddr 66 (Operand.tmp 26) (Operand.tmp 24))) (ty := 0) (dst := some 27) (g := none) (by kernel_rfl) (by kernel_rfl) (by kernel_rfl) (x_vidx (e := 23) (p := ((⟨g1, 0, none⟩ : Addr) : Addr).add 0) (n := 4096) (k := .u32) (i := (wu32 (a1.tdiv 4))) (sz := 1) (by kernel_rfl) (by kernel_rfl) (by kernel_rfl) (by kernel_rfl) hp22.1 hp22.2) [27] (L' := [(27, .pointer (some ((((⟨g1, 0, none⟩ : Addr) : Addr).add 0 : Addr).add ((wu32 (a1.tdiv 4) : Int).toNat * 1))))]) (by kernel_rfl) ?_
      clear hs; intro a hs
      refine go_pvs 6 8 [6, 7] hs (L' := [(6, .pointer (some ((((⟨g1, 0, none⟩ : Addr) : Addr).add 0 : Addr).add ((wu32 (a1.tdiv 4) : Int).toNat * 1)))), (7, .int .i64 0)]) (by kernel_rfl) ?_ rfl
      clear hs; intro a hs
      refine go_end (by kernel_rfl) ?_
      refine hK21 _ _ ?_
      refine wp_ret ?_
      refine ret2 (t1 := 6) (v1 := .pointer (some ((((⟨g1, 0, none⟩ : Addr) : Addr).add 0 : Addr).add ((wu32 (a1.tdiv 4) : Int).toNat * 1)))) (t2 := 7) (v2 := .int .i64 0) hs (by kernel_rfl) (by kernel_rfl) (by kernel_rfl) ?_
      refine ⟨_, rfl, ?_⟩
      refine hKR4 _ _ ?_
      intro a hs1
      have hs : Slots a _ [(11, .tuple #[.pointer (some ((((⟨g1, 0, none⟩ : Addr) : Addr).add 0 : Addr).add ((wu32 (a1.tdiv 4) : Int).toNat * 1))), .int .i64 0])] := hs1.keep [11] (by kernel_rfl)
      clear hs1
      refine go_pvs 3 8 [6, 7] hs (L' := [(6, .pointer (some ((((⟨g1, 0, none⟩ : Addr) : Addr).add 0 : Addr).add ((wu32 (a1.tdiv 4) : Int).toNat * 1)))), (7, .int .i64 0)]) (by kernel_rfl) ?_ rfl
      clear hs; intro a hs
      refine go_end (by kernel_rfl) ?_
      refine hK3 _ _ ?_
      refine go_seq_k fun K23 hK23 => ?_
      refine go_seq_k fun K24 hK24 => ?_
      refine go_region ?_
      refine go_pvs 0 2 [6, 7, 15] hs (L' := [(6, .pointer (some ((((⟨g1, 0, none⟩ : Addr) : Addr).add 0 : Addr).add ((wu32 (a1.tdiv 4) : Int).toNat * 1)))), (7, .int .i64 0), (15, .bool false)]) (by kernel_rfl) ?_ rfl
      clear hs; intro a hs
      refine go_end (by kernel_rfl) ?_
      refine hK24 _ _ ?_
      refine go_cond hs false (by kernel_rfl) (fun hc => ?_) (fun hc => ?_)
      · cases hc
      · skip
        refine wp_skip ?_
        refine hK23 _ _ ?_
        refine go_seq_k fun K25 hK25 => ?_
        refine go_region ?_
        refine go_pvs 0 2 [7, 18] hs (L' := [(7, .int .i64 0), (18, .pointer (some ((((⟨g1, 0, none⟩ : Addr) : Addr).add 0 : Addr).add ((wu32 (a1.tdiv 4) : Int).toNat * 1))))]) (by kernel_rfl) ?_ rfl
        clear hs; intro a hs
        refine go_run hs (op := (Op.load 23 (Operand.tmp 18))) (ty := 23) (dst := some 19) (g := none) (by kernel_rfl) (by kernel_rfl) (by kernel_rfl) (x_ld (E := eSmemory_Memory) (off := 0 + (wu32 (a1.tdiv 4) : Int).toNat * 1) (p := (((⟨g1, 0, none⟩ : Addr) : Addr).add 0 : Addr).add ((wu32 (a1.tdiv 4) : Int).toNat * 1)) (v := .int .u32 (vx 0 x0.w (wu32 (a1.tdiv 4) : Int).toNat)) (Rd.of_own (hw.up 0)) (one_ok x0).1 (one_ok x0).2 (by kernel_rfl) (by simp only [add_add', Int.toNat_zero, Nat.zero_mul, Nat.zero_add, Nat.mul_one] <;> rfl) (by kernel_rfl) (vget (cs := eSmemory_Memory.enc x0) (pre := []) (post := [.int .i64 x0.n]) (f := (fun j : Nat => .int .u32 (vx 0 x0.w j))) (n := 4096) (o := 0) (i := (wu32 (a1.tdiv 4) : Int).toNat) (by rw [List.nil_append, ← vec_range 0 x0.w (Value.int .u32)]; rfl) rfl (by have := hp22; omega))) [7, 19] (L' := [(7, .int .i64 0), (19, .int .u32 (vx 0 x0.w (wu32 (a1.tdiv 4) : Int).toNat))]) (by kernel_rfl) ?_
        clear hs; intro a hs
        refine go_pvs 3 6 [4, 5] hs (L' := [(4, .int .u32 (vx 0 x0.w (wu32 (a1.tdiv 4) : Int).toNat)), (5, .int .i64 0)]) (by kernel_rfl) ?_ rfl
        clear hs; intro a hs
        obtain ⟨y26, hy26, H⟩ := nm_some H
        replace hs : Slots a 21 [(4, .int .u32 y26), (5, .int .i64 0)] := by rw [hy26]; exact hs
        refine go_end (by kernel_rfl) ?_
        refine hK25 _ _ ?_
        refine wp_ret ?_
        obtain rfl := Option.some.inj H
        refine ret2 (t1 := 4) (v1 := .int .u32 y26) (t2 := 5) (v2 := .int .i64 0) hs (by kernel_rfl) (by kernel_rfl) (by kernel_rfl) ?_
        exact ⟨rfl, hw.only 1⟩

/-! (*rivet/memory.Memory).Byte: function 31 -/
noncomputable def memory_Memory_Byte (x0 : Smemory_Memory) (a1 : Int) : Option (Int × Int × Smemory_Memory) := (if (a1.tmod 1) = 0 then (if (w64 (wu32 (a1.tdiv 4))) ≥ x0.n then some (0, 3, x0) else (if 0 ≤ (wu32 (a1.tdiv 4)) ∧ (wu32 (a1.tdiv 4)) < ((4096 : Nat) : Int) then (if 0 ≤ (wu32 ((a1.tmod 4) * 8)) then (nm (wu8 (shr .u32 (vx 0 x0.w (wu32 (a1.tdiv 4) : Int).toNat) (wu32 ((a1.tmod 4) * 8)))) fun y27 => some (y27, 0, x0)) else none) else none)) else some (0, 4, x0))
set_option maxRecDepth 100000 in
set_option maxHeartbeats 4000000 in
theorem memory_Memory_Byte.calls (ks0 : List Nat) (A0 : Option Addr) (x0 : Smemory_Memory) (a1 : Int) (r : Int × Int × Smemory_Memory) (w0 : World) (hw : St ks0 w0 w0 [mSmemory_Memory A0 x0]) (H : memory_Memory_Byte x0 a1 = some r) :
    Calls Try.prog 31 #[.pointer A0, .int .u32 a1] w0 fun e w' => e = .returned (.tuple #[.int .u8 r.1, .int .i64 r.2.1]) ∧ St ks0 w0 w' [mSmemory_Memory A0 r.2.2] := by
  unfold memory_Memory_Byte at H
  refine go_fn Try.func31 rfl 26 Try.ntmps31 [(0, .pointer A0), (1, .int .u32 a1)] (by kernel_rfl) rfl ?_
  intro a hs
  obtain ⟨g1, hAg, hwg⟩ := St.one hw
  clear hw; subst hAg; have hw := hwg; clear hwg
  refine go_seq_k fun K2 hK2 => ?_
  refine go_region ?_
  refine go_pvs 0 2 [0, 1] hs (L' := [(0, .pointer (some (⟨g1, 0, none⟩ : Addr))), (1, .int .u32 a1)]) (by kernel_rfl) ?_ rfl
  clear hs; intro a hs
  refine go_end (by kernel_rfl) ?_
  refine hK2 _ _ ?_
  refine go_seq_k fun K3 hK3 => ?_
  refine go_region ?_
  refine go_pvs 0 2 [1, 9, 10] hs (L' := [(1, .int .u32 a1), (9, .pointer (some (⟨g1, 0, none⟩ : Addr))), (10, .int .u32 a1)]) (by kernel_rfl) ?_ rfl
  clear hs; intro a hs
  refine go_inline_k hs (op := (Op.call { callee := (Callee.value (Operand.func 42)), args := #[(Operand.tmp 9), (Operand.tmp 10), (Operand.const (Value.int IntKind.u32 1))], argTypes := #[26, 23, 23] })) (ty := 74) (dst := some 11) (g := none) (by kernel_rfl) (by kernel_rfl) (by kernel_rfl) (f := 42) (args := #[.pointer (some (⟨g1, 0, none⟩ : Addr)), .int .u32 a1, .int .u32 1]) (by kernel_rfl) (fun KR4 hKR4 => ?_)
  refine go_fn Try.func42 rfl 28 Try.ntmps42 [(0, .pointer (some (⟨g1, 0, none⟩ : Addr))), (1, .int .u32 a1), (2, .int .u32 1)] (by kernel_rfl) rfl ?_
  clear hs; intro a hs
  refine go_seq_k fun K5 hK5 => ?_
  refine go_region ?_
  refine go_pvs 0 2 [0, 1, 2] hs (L' := [(0, .pointer (some (⟨g1, 0, none⟩ : Addr))), (1, .int .u32 a1), (2, .int .u32 1)]) (by kernel_rfl) ?_ rfl
  clear hs; intro a hs
  refine go_end (by kernel_rfl) ?_
  refine hK5 _ _ ?_
  refine go_seq_k fun K6 hK6 => ?_
  refine wp_block ?_
  refine go_seq_k fun K7 hK7 => ?_
  refine go_region ?_
  refine go_pvs 0 5 [0, 1, 8] hs (L' := [(0, .pointer (some (⟨g1, 0, none⟩ : Addr))), (1, .int .u32 a1), (8, .bool ((a1.tmod 1) != 0))]) (by kernel_rfl) ?_ rfl
  clear hs; intro a hs
  refine go_end (by kernel_rfl) ?_
  refine hK7 _ _ ?_
  refine go_cond hs ((a1.tmod 1) != 0) (by kernel_rfl) (fun hc => ?_) (fun hc => ?_)
  · replace H := ite_f H (bne_iff_ne.1 hc)
    have hb8 := hc
    rw [hb8] at hs
    refine go_seq_k fun K9 hK9 => ?_
    refine go_region ?_
    refine go_pvs 0 2 [6, 7] hs (L' := [(6, .pointer none), (7, .int .i64 4)]) (by kernel_rfl) ?_ rfl
    clear hs; intro a hs
    refine go_end (by kernel_rfl) ?_
    refine hK9 _ _ ?_
    refine wp_ret ?_
    refine ib_ret ?_
    refine th_ret ?_
    refine ret2 (t1 := 6) (v1 := .pointer none) (t2 := 7) (v2 := .int .i64 4) hs (by kernel_rfl) (by kernel_rfl) (by kernel_rfl) ?_
    refine ⟨_, rfl, ?_⟩
    refine hKR4 _ _ ?_
    intro a hs1
    have hs : Slots a _ [(1, .int .u32 a1), (11, .tuple #[.pointer none, .int .i64 4])] := hs1.keep [1, 11] (by kernel_rfl)
    clear hs1
    refine go_pvs 3 8 [1, 6, 7] hs (L' := [(1, .int .u32 a1), (6, .pointer none), (7, .int .i64 4)]) (by kernel_rfl) ?_ rfl
    clear hs; intro a hs
    refine go_end (by kernel_rfl) ?_
    refine hK3 _ _ ?_
    refine go_seq_k fun K10 hK10 => ?_
    refine go_seq_k fun K11 hK11 => ?_
    refine go_region ?_
    refine go_pvs 0 2 [1, 6, 7, 15] hs (L' := [(1, .int .u32 a1), (6, .pointer none), (7, .int .i64 4), (15, .bool true)]) (by kernel_rfl) ?_ rfl
    clear hs; intro a hs
    refine go_end (by kernel_rfl) ?_
    refine hK11 _ _ ?_
    refine go_cond hs true (by kernel_rfl) (fun hc => ?_) (fun hc => ?_)
    · skip
      refine go_seq_k fun K12 hK12 => ?_
      refine go_region ?_
      refine go_pvs 0 3 [4, 5] hs (L' := [(4, .int .u8 0), (5, .int .i64 4)]) (by kernel_rfl) ?_ rfl
      clear hs; intro a hs
      refine go_end (by kernel_rfl) ?_
      refine hK12 _ _ ?_
      refine wp_ret ?_
      refine th_ret ?_
      obtain rfl := Option.some.inj H
      refine ret2 (t1 := 4) (v1 := .int .u8 0) (t2 := 5) (v2 := .int .i64 4) hs (by kernel_rfl) (by kernel_rfl) (by kernel_rfl) ?_
      exact ⟨rfl, hw.only 1⟩
    · cases hc
  · replace H := ite_t H (bne_eq_false_iff_eq.1 hc)
    have hb13 := hc
    rw [hb13] at hs
    refine go_seq_k fun K14 hK14 => ?_
    refine go_region ?_
    refine go_pvs 0 6 [0, 1, 16, 19] hs (L' := [(0, .pointer (some (⟨g1, 0, none⟩ : Addr))), (1, .int .u32 a1), (16, .int .i64 (w64 (wu32 (a1.tdiv 4)))), (19, .pointer (some (((⟨g1, 0, none⟩ : Addr) : Addr).add 4096)))]) (by kernel_rfl) ?_ rfl
    clear hs; intro a hs
    refine go_run hs (op := (Op.load 3 (Operand.tmp 19))) (ty := 3) (dst := some 20) (g := none) (by kernel_rfl) (by kernel_rfl) (by kernel_rfl) (x_ld (E := eSmemory_Memory) (off := 4096) (p := ((⟨g1, 0, none⟩ : Addr) : Addr).add 4096) (v := .int .i64 x0.n) (Rd.of_own (hw.up 0)) (one_ok x0).1 (one_ok x0).2 (by kernel_rfl) (one_off _ _ _) (by kernel_rfl) ((vafter (cs := eSmemory_Memory.enc x0) (pre := []) (post := [.int .i64 x0.n]) (f := (fun j : Nat => .int .u32 (vx 0 x0.w j))) (n := 4096) (o := 4096) (j := 0) (by rw [List.nil_append, ← vec_range 0 x0.w (Value.int .u32)]; rfl) rfl).trans (by kernel_rfl))) [0, 1, 16, 20] (L' := [(0, .pointer (some (⟨g1, 0, none⟩ : Addr))), (1, .int .u32 a1), (16, .int .i64 (w64 (wu32 (a1.tdiv 4)))), (20, .int .i64 x0.n)]) (by kernel_rfl) ?_
    clear hs; intro a hs
    refine go_pvs 7 9 [0, 1, 13] hs (L' := [(0, .pointer (some (⟨g1, 0, none⟩ : Addr))), (1, .int .u32 a1), (13, .bool (decide ((w64 (wu32 (a1.tdiv 4))) ≥ x0.n)))]) (by kernel_rfl) ?_ rfl
    clear hs; intro a hs
    refine go_end (by kernel_rfl) ?_
    refine hK14 _ _ ?_
    refine go_cond hs (decide ((w64 (wu32 (a1.tdiv 4))) ≥ x0.n)) (by kernel_rfl) (fun hc => ?_) (fun hc => ?_)
    · replace H := ite_t H (of_decide_eq_true hc)
      have hb15 := hc
      rw [hb15] at hs
      refine go_seq_k fun K16 hK16 => ?_
      refine go_region ?_
      refine go_pvs 0 2 [6, 7] hs (L' := [(6, .pointer none), (7, .int .i64 3)]) (by kernel_rfl) ?_ rfl
      clear hs; intro a hs
      refine go_end (by kernel_rfl) ?_
      refine hK16 _ _ ?_
      refine wp_ret ?_
      refine ib_ret ?_
      refine th_ret ?_
      refine ret2 (t1 := 6) (v1 := .pointer none) (t2 := 7) (v2 := .int .i64 3) hs (by kernel_rfl) (by kernel_rfl) (by kernel_rfl) ?_
      refine ⟨_, rfl, ?_⟩
      refine hKR4 _ _ ?_
      intro a hs1
      have hs : Slots a _ [(1, .int .u32 a1), (11, .tuple #[.pointer none, .int .i64 3])] := hs1.keep [1, 11] (by kernel_rfl)
      clear hs1
      refine go_pvs 3 8 [1, 6, 7] hs (L' := [(1, .int .u32 a1), (6, .pointer none), (7, .int .i64 3)]) (by kernel_rfl) ?_ rfl
      clear hs; intro a hs
      refine go_end (by kernel_rfl) ?_
      refine hK3 _ _ ?_
      refine go_seq_k fun K17 hK17 => ?_
      refine go_seq_k fun K18 hK18 => ?_
      refine go_region ?_
      refine go_pvs 0 2 [1, 6, 7, 15] hs (L' := [(1, .int .u32 a1), (6, .pointer none), (7, .int .i64 3), (15, .bool true)]) (by kernel_rfl) ?_ rfl
      clear hs; intro a hs
      refine go_end (by kernel_rfl) ?_
      refine hK18 _ _ ?_
      refine go_cond hs true (by kernel_rfl) (fun hc => ?_) (fun hc => ?_)
      · skip
        refine go_seq_k fun K19 hK19 => ?_
        refine go_region ?_
        refine go_pvs 0 3 [4, 5] hs (L' := [(4, .int .u8 0), (5, .int .i64 3)]) (by kernel_rfl) ?_ rfl
        clear hs; intro a hs
        refine go_end (by kernel_rfl) ?_
        refine hK19 _ _ ?_
        refine wp_ret ?_
        refine th_ret ?_
        obtain rfl := Option.some.inj H
        refine ret2 (t1 := 4) (v1 := .int .u8 0) (t2 := 5) (v2 := .int .i64 3) hs (by kernel_rfl) (by kernel_rfl) (by kernel_rfl) ?_
        exact ⟨rfl, hw.only 1⟩
      · cases hc
    · replace H := ite_f H (of_decide_eq_false hc)
      have hb20 := hc
      rw [hb20] at hs
      refine wp_skip ?_
      refine ib_norm ?_
      refine hK6 _ _ ?_
      refine go_seq_k fun K21 hK21 => ?_
      refine go_region ?_
      refine go_pvs 0 5 [24, 26] hs (L' := [(24, .int .u32 (wu32 (a1.tdiv 4))), (26, .pointer (some (((⟨g1, 0, none⟩ : Addr) : Addr).add 0)))]) (by kernel_rfl) ?_ rfl
      clear hs; intro a hs
      obtain ⟨hp22, H⟩ := ite_only H
      refine go_run hs (op := (Op.indexAddr 66 (Operand.tmp 26) (Operand.tmp 24))) (ty := 0) (dst := some 27) (g := none) (by kernel_rfl) (by kernel_rfl) (by kernel_rfl) (x_vidx (e := 23) (p := ((⟨g1, 0, none⟩ : Addr) : Addr).add 0) (n := 4096) (k := .u32) (i := (wu32 (a1.tdiv 4))) (sz := 1) (by kernel_rfl) (by kernel_rfl) (by kernel_rfl) (by kernel_rfl) hp22.1 hp22.2) [27] (L' := [(27, .pointer (some ((((⟨g1, 0, none⟩ : Addr) : Addr).add 0 : Addr).add ((wu32 (a1.tdiv 4) : Int).toNat * 1))))]) (by kernel_rfl) ?_
      clear hs; intro a hs
      refine go_pvs 6 8 [6, 7] hs (L' := [(6, .pointer (some ((((⟨g1, 0, none⟩ : Addr) : Addr).add 0 : Addr).add ((wu32 (a1.tdiv 4) : Int).toNat * 1)))), (7, .int .i64 0)]) (by kernel_rfl) ?_ rfl
      clear hs; intro a hs
      refine go_end (by kernel_rfl) ?_
      refine hK21 _ _ ?_
      refine wp_ret ?_
      refine ret2 (t1 := 6) (v1 := .pointer (some ((((⟨g1, 0, none⟩ : Addr) : Addr).add 0 : Addr).add ((wu32 (a1.tdiv 4) : Int).toNat * 1)))) (t2 := 7) (v2 := .int .i64 0) hs (by kernel_rfl) (by kernel_rfl) (by kernel_rfl) ?_
      refine ⟨_, rfl, ?_⟩
      refine hKR4 _ _ ?_
      intro a hs1
      have hs : Slots a _ [(1, .int .u32 a1), (11, .tuple #[.pointer (some ((((⟨g1, 0, none⟩ : Addr) : Addr).add 0 : Addr).add ((wu32 (a1.tdiv 4) : Int).toNat * 1))), .int .i64 0])] := hs1.keep [1, 11] (by kernel_rfl)
      clear hs1
      refine go_pvs 3 8 [1, 6, 7] hs (L' := [(1, .int .u32 a1), (6, .pointer (some ((((⟨g1, 0, none⟩ : Addr) : Addr).add 0 : Addr).add ((wu32 (a1.tdiv 4) : Int).toNat * 1)))), (7, .int .i64 0)]) (by kernel_rfl) ?_ rfl
      clear hs; intro a hs
      refine go_end (by kernel_rfl) ?_
      refine hK3 _ _ ?_
      refine go_seq_k fun K23 hK23 => ?_
      refine go_seq_k fun K24 hK24 => ?_
      refine go_region ?_
      refine go_pvs 0 2 [1, 6, 7, 15] hs (L' := [(1, .int .u32 a1), (6, .pointer (some ((((⟨g1, 0, none⟩ : Addr) : Addr).add 0 : Addr).add ((wu32 (a1.tdiv 4) : Int).toNat * 1)))), (7, .int .i64 0), (15, .bool false)]) (by kernel_rfl) ?_ rfl
      clear hs; intro a hs
      refine go_end (by kernel_rfl) ?_
      refine hK24 _ _ ?_
      refine go_cond hs false (by kernel_rfl) (fun hc => ?_) (fun hc => ?_)
      · cases hc
      · skip
        refine wp_skip ?_
        refine hK23 _ _ ?_
        refine go_seq_k fun K25 hK25 => ?_
        refine go_region ?_
        refine go_pvs 0 2 [1, 7, 18] hs (L' := [(1, .int .u32 a1), (7, .int .i64 0), (18, .pointer (some ((((⟨g1, 0, none⟩ : Addr) : Addr).add 0 : Addr).add ((wu32 (a1.tdiv 4) : Int).toNat * 1))))]) (by kernel_rfl) ?_ rfl
        clear hs; intro a hs
        refine go_run hs (op := (Op.load 23 (Operand.tmp 18))) (ty := 23) (dst := some 19) (g := none) (by kernel_rfl) (by kernel_rfl) (by kernel_rfl) (x_ld (E := eSmemory_Memory) (off := 0 + (wu32 (a1.tdiv 4) : Int).toNat * 1) (p := (((⟨g1, 0, none⟩ : Addr) : Addr).add 0 : Addr).add ((wu32 (a1.tdiv 4) : Int).toNat * 1)) (v := .int .u32 (vx 0 x0.w (wu32 (a1.tdiv 4) : Int).toNat)) (Rd.of_own (hw.up 0)) (one_ok x0).1 (one_ok x0).2 (by kernel_rfl) (by simp only [add_add', Int.toNat_zero, Nat.zero_mul, Nat.zero_add, Nat.mul_one] <;> rfl) (by kernel_rfl) (vget (cs := eSmemory_Memory.enc x0) (pre := []) (post := [.int .i64 x0.n]) (f := (fun j : Nat => .int .u32 (vx 0 x0.w j))) (n := 4096) (o := 0) (i := (wu32 (a1.tdiv 4) : Int).toNat) (by rw [List.nil_append, ← vec_range 0 x0.w (Value.int .u32)]; rfl) rfl (by have := hp22; omega))) [1, 7, 19] (L' := [(1, .int .u32 a1), (7, .int .i64 0), (19, .int .u32 (vx 0 x0.w (wu32 (a1.tdiv 4) : Int).toNat))]) (by kernel_rfl) ?_
        clear hs; intro a hs
        refine go_pvs 3 6 [7, 19, 22] hs (L' := [(7, .int .i64 0), (19, .int .u32 (vx 0 x0.w (wu32 (a1.tdiv 4) : Int).toNat)), (22, .int .u32 (wu32 ((a1.tmod 4) * 8)))]) (by kernel_rfl) ?_ rfl
        clear hs; intro a hs
        obtain ⟨hp26, H⟩ := ite_only H
        refine go_run hs (op := (Op.binOp BinOp.shr 23 (Operand.tmp 19) (Operand.tmp 22) 23)) (ty := 23) (dst := some 23) (g := none) (by kernel_rfl) (by kernel_rfl) (by kernel_rfl) (x_shr (k := .u32) (k' := .u32) (m := vx 0 x0.w (wu32 (a1.tdiv 4) : Int).toNat) (n := wu32 ((a1.tmod 4) * 8)) (by kernel_rfl) (by kernel_rfl) hp26) [7, 23] (L' := [(7, .int .i64 0), (23, .int .u32 (shr .u32 (vx 0 x0.w (wu32 (a1.tdiv 4) : Int).toNat) (wu32 ((a1.tmod 4) * 8))))]) (by kernel_rfl) ?_
        clear hs; intro a hs
        refine go_pvs 7 11 [4, 5] hs (L' := [(4, .int .u8 (wu8 (shr .u32 (vx 0 x0.w (wu32 (a1.tdiv 4) : Int).toNat) (wu32 ((a1.tmod 4) * 8))))), (5, .int .i64 0)]) (by kernel_rfl) ?_ rfl
        clear hs; intro a hs
        obtain ⟨y27, hy27, H⟩ := nm_some H
        replace hs : Slots a 26 [(4, .int .u8 y27), (5, .int .i64 0)] := by rw [hy27]; exact hs
        refine go_end (by kernel_rfl) ?_
        refine hK25 _ _ ?_
        refine wp_ret ?_
        obtain rfl := Option.some.inj H
        refine ret2 (t1 := 4) (v1 := .int .u8 y27) (t2 := 5) (v2 := .int .i64 0) hs (by kernel_rfl) (by kernel_rfl) (by kernel_rfl) ?_
        exact ⟨rfl, hw.only 1⟩

/-! (*rivet/memory.Memory).SetWord: function 33 -/
noncomputable def memory_Memory_SetWord.j1 (x0 : Smemory_Memory) : Option (Int × Smemory_Memory) := some (4, x0)
noncomputable def memory_Memory_SetWord.j2 (x0 : Smemory_Memory) : Option (Int × Smemory_Memory) := some (3, x0)
noncomputable def memory_Memory_SetWord.j3 (v27 : Smemory_Memory) : Option (Int × Smemory_Memory) := some (0, v27)
noncomputable def memory_Memory_SetWord (x0 : Smemory_Memory) (a1 : Int) (a2 : Int) : Option (Int × Smemory_Memory) := (if (a1.tmod 4) = 0 then (if (w64 (wu32 (a1.tdiv 4))) ≥ x0.n then memory_Memory_SetWord.j2 x0 else (if 0 ≤ (wu32 (a1.tdiv 4)) ∧ (wu32 (a1.tdiv 4)) < ((4096 : Nat) : Int) then memory_Memory_SetWord.j3 ({ x0 with w := vset x0.w (wu32 (a1.tdiv 4) : Int).toNat a2 }) else none)) else memory_Memory_SetWord.j1 x0)
set_option maxRecDepth 100000 in
set_option maxHeartbeats 4000000 in
theorem memory_Memory_SetWord.calls (ks0 : List Nat) (A0 : Option Addr) (x0 : Smemory_Memory) (a1 : Int) (a2 : Int) (r : Int × Smemory_Memory) (w0 : World) (hw : St ks0 w0 w0 [mSmemory_Memory A0 x0]) (H : memory_Memory_SetWord x0 a1 a2 = some r) :
    Calls Try.prog 33 #[.pointer A0, .int .u32 a1, .int .u32 a2] w0 fun e w' => e = .returned (.int .i64 r.1) ∧ St ks0 w0 w' [mSmemory_Memory A0 r.2] := by
  unfold memory_Memory_SetWord at H
  refine go_fn Try.func33 rfl 21 Try.ntmps33 [(0, .pointer A0), (1, .int .u32 a1), (2, .int .u32 a2)] (by kernel_rfl) rfl ?_
  intro a hs
  obtain ⟨g1, hAg, hwg⟩ := St.one hw
  clear hw; subst hAg; have hw := hwg; clear hwg
  refine go_seq_k fun K2 hK2 => ?_
  refine go_region ?_
  refine go_pvs 0 1 [0, 1, 2] hs (L' := [(0, .pointer (some (⟨g1, 0, none⟩ : Addr))), (1, .int .u32 a1), (2, .int .u32 a2)]) (by kernel_rfl) ?_ rfl
  clear hs; intro a hs
  refine go_end (by kernel_rfl) ?_
  refine hK2 _ _ ?_
  refine go_seq_k fun K3 hK3 => ?_
  refine go_region ?_
  refine go_pvs 0 2 [2, 10, 11] hs (L' := [(2, .int .u32 a2), (10, .pointer (some (⟨g1, 0, none⟩ : Addr))), (11, .int .u32 a1)]) (by kernel_rfl) ?_ rfl
  clear hs; intro a hs
  refine go_inline_k hs (op := (Op.call { callee := (Callee.value (Operand.func 42)), args := #[(Operand.tmp 10), (Operand.tmp 11), (Operand.const (Value.int IntKind.u32 4))], argTypes := #[26, 23, 23] })) (ty := 74) (dst := some 12) (g := none) (by kernel_rfl) (by kernel_rfl) (by kernel_rfl) (f := 42) (args := #[.pointer (some (⟨g1, 0, none⟩ : Addr)), .int .u32 a1, .int .u32 4]) (by kernel_rfl) (fun KR4 hKR4 => ?_)
  refine go_fn Try.func42 rfl 28 Try.ntmps42 [(0, .pointer (some (⟨g1, 0, none⟩ : Addr))), (1, .int .u32 a1), (2, .int .u32 4)] (by kernel_rfl) rfl ?_
  clear hs; intro a hs
  refine go_seq_k fun K5 hK5 => ?_
  refine go_region ?_
  refine go_pvs 0 2 [0, 1, 2] hs (L' := [(0, .pointer (some (⟨g1, 0, none⟩ : Addr))), (1, .int .u32 a1), (2, .int .u32 4)]) (by kernel_rfl) ?_ rfl
  clear hs; intro a hs
  refine go_end (by kernel_rfl) ?_
  refine hK5 _ _ ?_
  refine go_seq_k fun K6 hK6 => ?_
  refine wp_block ?_
  refine go_seq_k fun K7 hK7 => ?_
  refine go_region ?_
  refine go_pvs 0 5 [0, 1, 8] hs (L' := [(0, .pointer (some (⟨g1, 0, none⟩ : Addr))), (1, .int .u32 a1), (8, .bool ((a1.tmod 4) != 0))]) (by kernel_rfl) ?_ rfl
  clear hs; intro a hs
  refine go_end (by kernel_rfl) ?_
  refine hK7 _ _ ?_
  refine go_cond hs ((a1.tmod 4) != 0) (by kernel_rfl) (fun hc => ?_) (fun hc => ?_)
  · replace H := ite_f H (bne_iff_ne.1 hc)
    have hb8 := hc
    rw [hb8] at hs
    refine go_seq_k fun K9 hK9 => ?_
    refine go_region ?_
    refine go_pvs 0 2 [6, 7] hs (L' := [(6, .pointer none), (7, .int .i64 4)]) (by kernel_rfl) ?_ rfl
    clear hs; intro a hs
    refine go_end (by kernel_rfl) ?_
    refine hK9 _ _ ?_
    refine wp_ret ?_
    refine ib_ret ?_
    refine th_ret ?_
    refine ret2 (t1 := 6) (v1 := .pointer none) (t2 := 7) (v2 := .int .i64 4) hs (by kernel_rfl) (by kernel_rfl) (by kernel_rfl) ?_
    refine ⟨_, rfl, ?_⟩
    refine hKR4 _ _ ?_
    intro a hs1
    have hs : Slots a _ [(2, .int .u32 a2), (12, .tuple #[.pointer none, .int .i64 4])] := hs1.keep [2, 12] (by kernel_rfl)
    clear hs1
    refine go_pvs 3 8 [2, 7, 8] hs (L' := [(2, .int .u32 a2), (7, .pointer none), (8, .int .i64 4)]) (by kernel_rfl) ?_ rfl
    clear hs; intro a hs
    refine go_end (by kernel_rfl) ?_
    refine hK3 _ _ ?_
    refine go_seq_k fun K10 hK10 => ?_
    have hJ1 : ∀ (a : Act) (w : World), Slots a 21 [(8, .int .i64 4)] → St ks0 w0 w [own 68 eSmemory_Memory (some (⟨g1, 0, none⟩ : Addr)) 1 [x0]] → memory_Memory_SetWord.j1 x0 = some r → K10 a w := by
      intro a w hs hw H
      unfold memory_Memory_SetWord.j1 at H
      refine hK10 _ _ ?_
      refine go_seq_k fun K12 hK12 => ?_
      refine go_region ?_
      refine go_pvs 0 2 [6] hs (L' := [(6, .int .i64 4)]) (by kernel_rfl) ?_ rfl
      clear hs; intro a hs
      refine go_end (by kernel_rfl) ?_
      refine hK12 _ _ ?_
      refine wp_ret ?_
      obtain rfl := Option.some.inj H
      refine ret1 (t := 6) (v := .int .i64 4) hs (by kernel_rfl) (by kernel_rfl) ?_
      exact ⟨rfl, hw.only 1⟩
    refine go_seq_k fun K11 hK11 => ?_
    refine go_region ?_
    refine go_pvs 0 2 [2, 7, 8, 16] hs (L' := [(2, .int .u32 a2), (7, .pointer none), (8, .int .i64 4), (16, .bool false)]) (by kernel_rfl) ?_ rfl
    clear hs; intro a hs
    refine go_end (by kernel_rfl) ?_
    refine hK11 _ _ ?_
    refine go_cond hs false (by kernel_rfl) (fun hc => ?_) (fun hc => ?_)
    · cases hc
    · skip
      refine wp_skip ?_
      replace hw := hw.only 1
      exact hJ1 _ _ (hs.keep [8] (by kernel_rfl)) hw H
  · replace H := ite_t H (bne_eq_false_iff_eq.1 hc)
    have hb13 := hc
    rw [hb13] at hs
    refine go_seq_k fun K14 hK14 => ?_
    refine go_region ?_
    refine go_pvs 0 6 [0, 1, 16, 19] hs (L' := [(0, .pointer (some (⟨g1, 0, none⟩ : Addr))), (1, .int .u32 a1), (16, .int .i64 (w64 (wu32 (a1.tdiv 4)))), (19, .pointer (some (((⟨g1, 0, none⟩ : Addr) : Addr).add 4096)))]) (by kernel_rfl) ?_ rfl
    clear hs; intro a hs
    refine go_run hs (op := (Op.load 3 (Operand.tmp 19))) (ty := 3) (dst := some 20) (g := none) (by kernel_rfl) (by kernel_rfl) (by kernel_rfl) (x_ld (E := eSmemory_Memory) (off := 4096) (p := ((⟨g1, 0, none⟩ : Addr) : Addr).add 4096) (v := .int .i64 x0.n) (Rd.of_own (hw.up 0)) (one_ok x0).1 (one_ok x0).2 (by kernel_rfl) (one_off _ _ _) (by kernel_rfl) ((vafter (cs := eSmemory_Memory.enc x0) (pre := []) (post := [.int .i64 x0.n]) (f := (fun j : Nat => .int .u32 (vx 0 x0.w j))) (n := 4096) (o := 4096) (j := 0) (by rw [List.nil_append, ← vec_range 0 x0.w (Value.int .u32)]; rfl) rfl).trans (by kernel_rfl))) [0, 1, 16, 20] (L' := [(0, .pointer (some (⟨g1, 0, none⟩ : Addr))), (1, .int .u32 a1), (16, .int .i64 (w64 (wu32 (a1.tdiv 4)))), (20, .int .i64 x0.n)]) (by kernel_rfl) ?_
    clear hs; intro a hs
    refine go_pvs 7 9 [0, 1, 13] hs (L' := [(0, .pointer (some (⟨g1, 0, none⟩ : Addr))), (1, .int .u32 a1), (13, .bool (decide ((w64 (wu32 (a1.tdiv 4))) ≥ x0.n)))]) (by kernel_rfl) ?_ rfl
    clear hs; intro a hs
    refine go_end (by kernel_rfl) ?_
    refine hK14 _ _ ?_
    refine go_cond hs (decide ((w64 (wu32 (a1.tdiv 4))) ≥ x0.n)) (by kernel_rfl) (fun hc => ?_) (fun hc => ?_)
    · replace H := ite_t H (of_decide_eq_true hc)
      have hb15 := hc
      rw [hb15] at hs
      refine go_seq_k fun K16 hK16 => ?_
      refine go_region ?_
      refine go_pvs 0 2 [6, 7] hs (L' := [(6, .pointer none), (7, .int .i64 3)]) (by kernel_rfl) ?_ rfl
      clear hs; intro a hs
      refine go_end (by kernel_rfl) ?_
      refine hK16 _ _ ?_
      refine wp_ret ?_
      refine ib_ret ?_
      refine th_ret ?_
      refine ret2 (t1 := 6) (v1 := .pointer none) (t2 := 7) (v2 := .int .i64 3) hs (by kernel_rfl) (by kernel_rfl) (by kernel_rfl) ?_
      refine ⟨_, rfl, ?_⟩
      refine hKR4 _ _ ?_
      intro a hs1
      have hs : Slots a _ [(2, .int .u32 a2), (12, .tuple #[.pointer none, .int .i64 3])] := hs1.keep [2, 12] (by kernel_rfl)
      clear hs1
      refine go_pvs 3 8 [2, 7, 8] hs (L' := [(2, .int .u32 a2), (7, .pointer none), (8, .int .i64 3)]) (by kernel_rfl) ?_ rfl
      clear hs; intro a hs
      refine go_end (by kernel_rfl) ?_
      refine hK3 _ _ ?_
      refine go_seq_k fun K17 hK17 => ?_
      have hJ2 : ∀ (a : Act) (w : World), Slots a 21 [(8, .int .i64 3)] → St ks0 w0 w [own 68 eSmemory_Memory (some (⟨g1, 0, none⟩ : Addr)) 1 [x0]] → memory_Memory_SetWord.j2 x0 = some r → K17 a w := by
        intro a w hs hw H
        unfold memory_Memory_SetWord.j2 at H
        refine hK17 _ _ ?_
        refine go_seq_k fun K19 hK19 => ?_
        refine go_region ?_
        refine go_pvs 0 2 [6] hs (L' := [(6, .int .i64 3)]) (by kernel_rfl) ?_ rfl
        clear hs; intro a hs
        refine go_end (by kernel_rfl) ?_
        refine hK19 _ _ ?_
        refine wp_ret ?_
        obtain rfl := Option.some.inj H
        refine ret1 (t := 6) (v := .int .i64 3) hs (by kernel_rfl) (by kernel_rfl) ?_
        exact ⟨rfl, hw.only 1⟩
      refine go_seq_k fun K18 hK18 => ?_
      refine go_region ?_
      refine go_pvs 0 2 [2, 7, 8, 16] hs (L' := [(2, .int .u32 a2), (7, .pointer none), (8, .int .i64 3), (16, .bool false)]) (by kernel_rfl) ?_ rfl
      clear hs; intro a hs
      refine go_end (by kernel_rfl) ?_
      refine hK18 _ _ ?_
      refine go_cond hs false (by kernel_rfl) (fun hc => ?_) (fun hc => ?_)
      · cases hc
      · skip
        refine wp_skip ?_
        replace hw := hw.only 1
        exact hJ2 _ _ (hs.keep [8] (by kernel_rfl)) hw H
    · replace H := ite_f H (of_decide_eq_false hc)
      have hb20 := hc
      rw [hb20] at hs
      refine wp_skip ?_
      refine ib_norm ?_
      refine hK6 _ _ ?_
      refine go_seq_k fun K21 hK21 => ?_
      refine go_region ?_
      refine go_pvs 0 5 [24, 26] hs (L' := [(24, .int .u32 (wu32 (a1.tdiv 4))), (26, .pointer (some (((⟨g1, 0, none⟩ : Addr) : Addr).add 0)))]) (by kernel_rfl) ?_ rfl
      clear hs; intro a hs
      obtain ⟨hp22, H⟩ := ite_only H
      refine go_run hs (op := (Op.indexAddr 66 (Operand.tmp 26) (Operand.tmp 24))) (ty := 0) (dst := some 27) (g := none) (by kernel_rfl) (by kernel_rfl) (by kernel_rfl) (x_vidx (e := 23) (p := ((⟨g1, 0, none⟩ : Addr) : Addr).add 0) (n := 4096) (k := .u32) (i := (wu32 (a1.tdiv 4))) (sz := 1) (by kernel_rfl) (by kernel_rfl) (by kernel_rfl) (by kernel_rfl) hp22.1 hp22.2) [27] (L' := [(27, .pointer (some ((((⟨g1, 0, none⟩ : Addr) : Addr).add 0 : Addr).add ((wu32 (a1.tdiv 4) : Int).toNat * 1))))]) (by kernel_rfl) ?_
      clear hs; intro a hs
      refine go_pvs 6 8 [6, 7] hs (L' := [(6, .pointer (some ((((⟨g1, 0, none⟩ : Addr) : Addr).add 0 : Addr).add ((wu32 (a1.tdiv 4) : Int).toNat * 1)))), (7, .int .i64 0)]) (by kernel_rfl) ?_ rfl
      clear hs; intro a hs
      refine go_end (by kernel_rfl) ?_
      refine hK21 _ _ ?_
      refine wp_ret ?_
      refine ret2 (t1 := 6) (v1 := .pointer (some ((((⟨g1, 0, none⟩ : Addr) : Addr).add 0 : Addr).add ((wu32 (a1.tdiv 4) : Int).toNat * 1)))) (t2 := 7) (v2 := .int .i64 0) hs (by kernel_rfl) (by kernel_rfl) (by kernel_rfl) ?_
      refine ⟨_, rfl, ?_⟩
      refine hKR4 _ _ ?_
      intro a hs1
      have hs : Slots a _ [(2, .int .u32 a2), (12, .tuple #[.pointer (some ((((⟨g1, 0, none⟩ : Addr) : Addr).add 0 : Addr).add ((wu32 (a1.tdiv 4) : Int).toNat * 1))), .int .i64 0])] := hs1.keep [2, 12] (by kernel_rfl)
      clear hs1
      refine go_pvs 3 8 [2, 7, 8] hs (L' := [(2, .int .u32 a2), (7, .pointer (some ((((⟨g1, 0, none⟩ : Addr) : Addr).add 0 : Addr).add ((wu32 (a1.tdiv 4) : Int).toNat * 1)))), (8, .int .i64 0)]) (by kernel_rfl) ?_ rfl
      clear hs; intro a hs
      refine go_end (by kernel_rfl) ?_
      refine hK3 _ _ ?_
      refine go_seq_k fun K23 hK23 => ?_
      have hJ3 : ∀ (v27 : Smemory_Memory) (a : Act) (w : World), Slots a 21 [(8, .int .i64 0)] → St ks0 w0 w [own 68 eSmemory_Memory (some (⟨g1, 0, none⟩ : Addr)) 1 [v27]] → memory_Memory_SetWord.j3 v27 = some r → K23 a w := by
        intro v27 a w hs hw H
        unfold memory_Memory_SetWord.j3 at H
        refine hK23 _ _ ?_
        refine go_seq_k fun K28 hK28 => ?_
        refine go_region ?_
        refine go_pvs 0 2 [6] hs (L' := [(6, .int .i64 0)]) (by kernel_rfl) ?_ rfl
        clear hs; intro a hs
        refine go_end (by kernel_rfl) ?_
        refine hK28 _ _ ?_
        refine wp_ret ?_
        obtain rfl := Option.some.inj H
        refine ret1 (t := 6) (v := .int .i64 0) hs (by kernel_rfl) (by kernel_rfl) ?_
        exact ⟨rfl, hw.only 1⟩
      refine go_seq_k fun K24 hK24 => ?_
      refine go_region ?_
      refine go_pvs 0 2 [2, 7, 8, 16] hs (L' := [(2, .int .u32 a2), (7, .pointer (some ((((⟨g1, 0, none⟩ : Addr) : Addr).add 0 : Addr).add ((wu32 (a1.tdiv 4) : Int).toNat * 1)))), (8, .int .i64 0), (16, .bool true)]) (by kernel_rfl) ?_ rfl
      clear hs; intro a hs
      refine go_end (by kernel_rfl) ?_
      refine hK24 _ _ ?_
      refine go_cond hs true (by kernel_rfl) (fun hc => ?_) (fun hc => ?_)
      · skip
        refine go_region ?_
        refine go_pvs 0 3 [8, 18, 19] hs (L' := [(8, .int .i64 0), (18, .int .u32 a2), (19, .pointer (some ((((⟨g1, 0, none⟩ : Addr) : Addr).add 0 : Addr).add ((wu32 (a1.tdiv 4) : Int).toNat * 1))))]) (by kernel_rfl) ?_ rfl
        clear hs; intro a hs
        obtain ⟨wd25, hx26, hw⟩ := x_put (P := Try.prog) (L := [(8, .int .i64 0), (18, .int .u32 a2), (19, .pointer (some ((((⟨g1, 0, none⟩ : Addr) : Addr).add 0 : Addr).add ((wu32 (a1.tdiv 4) : Int).toNat * 1))))]) (ty := 0) (t := 23) (x := (Operand.tmp 19)) (y := (Operand.tmp 18)) (off := 0 + (wu32 (a1.tdiv 4) : Int).toNat * 1) (p := (((⟨g1, 0, none⟩ : Addr) : Addr).add 0 : Addr).add ((wu32 (a1.tdiv 4) : Int).toNat * 1)) (v := .int .u32 a2) (vs := [.int .u32 a2]) (i := 0) (e' := ({ x0 with w := vset x0.w (wu32 (a1.tdiv 4) : Int).toNat a2 } : Smemory_Memory)) hw rfl (one_ok x0).1 (one_ok x0).2 (by kernel_rfl) (by simp only [add_add', Int.toNat_zero, Nat.zero_mul, Nat.zero_add, Nat.mul_one] <;> rfl) (by kernel_rfl) rfl (by kernel_rfl) (by have := hp22; show 0 + _ * 1 + 1 ≤ 4097; omega) (by simp [Value.oneCell']) (vput (cs := eSmemory_Memory.enc x0) (cs' := eSmemory_Memory.enc ({ x0 with w := vset x0.w (wu32 (a1.tdiv 4) : Int).toNat a2 })) (pre := []) (post := [.int .i64 x0.n]) (f := (fun j : Nat => .int .u32 (vx 0 x0.w j))) (f' := (fun j : Nat => .int .u32 (vx 0 (vset x0.w (wu32 (a1.tdiv 4) : Int).toNat a2) j))) (n := 4096) (o := 0) (i := (wu32 (a1.tdiv 4) : Int).toNat) (v := .int .u32 a2) (by rw [List.nil_append, ← vec_range 0 x0.w (Value.int .u32)]; rfl) (by rw [List.nil_append, ← vec_range 0 (vset x0.w (wu32 (a1.tdiv 4) : Int).toNat a2) (Value.int .u32)]; rfl) rfl (by have := hp22; omega) (vx_put (by have := hp22; omega)))
        refine go_unit hs (op := (Op.store 23 (Operand.tmp 19) (Operand.tmp 18))) (ty := 0) (dst := none) (g := none) (by kernel_rfl) (by kernel_rfl) (by kernel_rfl) hx26 [8] (L' := [(8, .int .i64 0)]) (by kernel_rfl) ?_
        clear hs; intro a hs
        replace hw : St ks0 w0 wd25 [own 68 eSmemory_Memory (some (⟨g1, 0, none⟩ : Addr)) 1 [{ x0 with w := vset x0.w (wu32 (a1.tdiv 4) : Int).toNat a2 }]] := hw
        refine go_end (by kernel_rfl) ?_
        replace hw := hw.only 1
        exact hJ3 ({ x0 with w := vset x0.w (wu32 (a1.tdiv 4) : Int).toNat a2 }) _ _ (hs.keep [8] (by kernel_rfl)) hw H
      · cases hc

/-! (*rivet/memory.Memory).SetByte: function 35 -/
noncomputable def memory_Memory_SetByte.j1 (x0 : Smemory_Memory) : Option (Int × Smemory_Memory) := some (4, x0)
noncomputable def memory_Memory_SetByte.j2 (x0 : Smemory_Memory) : Option (Int × Smemory_Memory) := some (3, x0)
noncomputable def memory_Memory_SetByte.j3 (v30 : Smemory_Memory) : Option (Int × Smemory_Memory) := some (0, v30)
noncomputable def memory_Memory_SetByte (x0 : Smemory_Memory) (a1 : Int) (a2 : Int) : Option (Int × Smemory_Memory) := (if (a1.tmod 1) = 0 then (if (w64 (wu32 (a1.tdiv 4))) ≥ x0.n then memory_Memory_SetByte.j2 x0 else (if 0 ≤ (wu32 (a1.tdiv 4)) ∧ (wu32 (a1.tdiv 4)) < ((4096 : Nat) : Int) then (if 0 ≤ (wu32 ((a1.tmod 4) * 8)) then (if 0 ≤ (wu32 ((a1.tmod 4) * 8)) then memory_Memory_SetByte.j3 ({ x0 with w := vset x0.w (wu32 (a1.tdiv 4) : Int).toNat (bor .u32 (bandn .u32 (vx 0 x0.w (wu32 (a1.tdiv 4) : Int).toNat) (shl .u32 255 (wu32 ((a1.tmod 4) * 8)))) (shl .u32 (wu32 a2) (wu32 ((a1.tmod 4) * 8)))) }) else none) else none) else none)) else memory_Memory_SetByte.j1 x0)
set_option maxRecDepth 100000 in
set_option maxHeartbeats 4000000 in
theorem memory_Memory_SetByte.calls (ks0 : List Nat) (A0 : Option Addr) (x0 : Smemory_Memory) (a1 : Int) (a2 : Int) (r : Int × Smemory_Memory) (w0 : World) (hw : St ks0 w0 w0 [mSmemory_Memory A0 x0]) (H : memory_Memory_SetByte x0 a1 a2 = some r) :
    Calls Try.prog 35 #[.pointer A0, .int .u32 a1, .int .u8 a2] w0 fun e w' => e = .returned (.int .i64 r.1) ∧ St ks0 w0 w' [mSmemory_Memory A0 r.2] := by
  unfold memory_Memory_SetByte at H
  refine go_fn Try.func35 rfl 35 Try.ntmps35 [(0, .pointer A0), (1, .int .u32 a1), (2, .int .u8 a2)] (by kernel_rfl) rfl ?_
  intro a hs
  obtain ⟨g1, hAg, hwg⟩ := St.one hw
  clear hw; subst hAg; have hw := hwg; clear hwg
  refine go_seq_k fun K2 hK2 => ?_
  refine go_region ?_
  refine go_pvs 0 1 [0, 1, 2] hs (L' := [(0, .pointer (some (⟨g1, 0, none⟩ : Addr))), (1, .int .u32 a1), (2, .int .u8 a2)]) (by kernel_rfl) ?_ rfl
  clear hs; intro a hs
  refine go_end (by kernel_rfl) ?_
  refine hK2 _ _ ?_
  refine go_seq_k fun K3 hK3 => ?_
  refine go_region ?_
  refine go_pvs 0 2 [1, 2, 11, 12] hs (L' := [(1, .int .u32 a1), (2, .int .u8 a2), (11, .pointer (some (⟨g1, 0, none⟩ : Addr))), (12, .int .u32 a1)]) (by kernel_rfl) ?_ rfl
  clear hs; intro a hs
  refine go_inline_k hs (op := (Op.call { callee := (Callee.value (Operand.func 42)), args := #[(Operand.tmp 11), (Operand.tmp 12), (Operand.const (Value.int IntKind.u32 1))], argTypes := #[26, 23, 23] })) (ty := 74) (dst := some 13) (g := none) (by kernel_rfl) (by kernel_rfl) (by kernel_rfl) (f := 42) (args := #[.pointer (some (⟨g1, 0, none⟩ : Addr)), .int .u32 a1, .int .u32 1]) (by kernel_rfl) (fun KR4 hKR4 => ?_)
  refine go_fn Try.func42 rfl 28 Try.ntmps42 [(0, .pointer (some (⟨g1, 0, none⟩ : Addr))), (1, .int .u32 a1), (2, .int .u32 1)] (by kernel_rfl) rfl ?_
  clear hs; intro a hs
  refine go_seq_k fun K5 hK5 => ?_
  refine go_region ?_
  refine go_pvs 0 2 [0, 1, 2] hs (L' := [(0, .pointer (some (⟨g1, 0, none⟩ : Addr))), (1, .int .u32 a1), (2, .int .u32 1)]) (by kernel_rfl) ?_ rfl
  clear hs; intro a hs
  refine go_end (by kernel_rfl) ?_
  refine hK5 _ _ ?_
  refine go_seq_k fun K6 hK6 => ?_
  refine wp_block ?_
  refine go_seq_k fun K7 hK7 => ?_
  refine go_region ?_
  refine go_pvs 0 5 [0, 1, 8] hs (L' := [(0, .pointer (some (⟨g1, 0, none⟩ : Addr))), (1, .int .u32 a1), (8, .bool ((a1.tmod 1) != 0))]) (by kernel_rfl) ?_ rfl
  clear hs; intro a hs
  refine go_end (by kernel_rfl) ?_
  refine hK7 _ _ ?_
  refine go_cond hs ((a1.tmod 1) != 0) (by kernel_rfl) (fun hc => ?_) (fun hc => ?_)
  · replace H := ite_f H (bne_iff_ne.1 hc)
    have hb8 := hc
    rw [hb8] at hs
    refine go_seq_k fun K9 hK9 => ?_
    refine go_region ?_
    refine go_pvs 0 2 [6, 7] hs (L' := [(6, .pointer none), (7, .int .i64 4)]) (by kernel_rfl) ?_ rfl
    clear hs; intro a hs
    refine go_end (by kernel_rfl) ?_
    refine hK9 _ _ ?_
    refine wp_ret ?_
    refine ib_ret ?_
    refine th_ret ?_
    refine ret2 (t1 := 6) (v1 := .pointer none) (t2 := 7) (v2 := .int .i64 4) hs (by kernel_rfl) (by kernel_rfl) (by kernel_rfl) ?_
    refine ⟨_, rfl, ?_⟩
    refine hKR4 _ _ ?_
    intro a hs1
    have hs : Slots a _ [(1, .int .u32 a1), (2, .int .u8 a2), (13, .tuple #[.pointer none, .int .i64 4])] := hs1.keep [1, 2, 13] (by kernel_rfl)
    clear hs1
    refine go_pvs 3 8 [1, 2, 7, 8] hs (L' := [(1, .int .u32 a1), (2, .int .u8 a2), (7, .pointer none), (8, .int .i64 4)]) (by kernel_rfl) ?_ rfl
    clear hs; intro a hs
    refine go_end (by kernel_rfl) ?_
    refine hK3 _ _ ?_
    refine go_seq_k fun K10 hK10 => ?_
    have hJ1 : ∀ (a : Act) (w : World), Slots a 35 [(8, .int .i64 4)] → St ks0 w0 w [own 68 eSmemory_Memory (some (⟨g1, 0, none⟩ : Addr)) 1 [x0]] → memory_Memory_SetByte.j1 x0 = some r → K10 a w := by
      intro a w hs hw H
      unfold memory_Memory_SetByte.j1 at H
      refine hK10 _ _ ?_
      refine go_seq_k fun K12 hK12 => ?_
      refine go_region ?_
      refine go_pvs 0 2 [6] hs (L' := [(6, .int .i64 4)]) (by kernel_rfl) ?_ rfl
      clear hs; intro a hs
      refine go_end (by kernel_rfl) ?_
      refine hK12 _ _ ?_
      refine wp_ret ?_
      obtain rfl := Option.some.inj H
      refine ret1 (t := 6) (v := .int .i64 4) hs (by kernel_rfl) (by kernel_rfl) ?_
      exact ⟨rfl, hw.only 1⟩
    refine go_seq_k fun K11 hK11 => ?_
    refine go_region ?_
    refine go_pvs 0 2 [1, 2, 7, 8, 17] hs (L' := [(1, .int .u32 a1), (2, .int .u8 a2), (7, .pointer none), (8, .int .i64 4), (17, .bool false)]) (by kernel_rfl) ?_ rfl
    clear hs; intro a hs
    refine go_end (by kernel_rfl) ?_
    refine hK11 _ _ ?_
    refine go_cond hs false (by kernel_rfl) (fun hc => ?_) (fun hc => ?_)
    · cases hc
    · skip
      refine wp_skip ?_
      replace hw := hw.only 1
      exact hJ1 _ _ (hs.keep [8] (by kernel_rfl)) hw H
  · replace H := ite_t H (bne_eq_false_iff_eq.1 hc)
    have hb13 := hc
    rw [hb13] at hs
    refine go_seq_k fun K14 hK14 => ?_
    refine go_region ?_
    refine go_pvs 0 6 [0, 1, 16, 19] hs (L' := [(0, .pointer (some (⟨g1, 0, none⟩ : Addr))), (1, .int .u32 a1), (16, .int .i64 (w64 (wu32 (a1.tdiv 4)))), (19, .pointer (some (((⟨g1, 0, none⟩ : Addr) : Addr).add 4096)))]) (by kernel_rfl) ?_ rfl
    clear hs; intro a hs
    refine go_run hs (op := (Op.load 3 (Operand.tmp 19))) (ty := 3) (dst := some 20) (g := none) (by kernel_rfl) (by kernel_rfl) (by kernel_rfl) (x_ld (E := eSmemory_Memory) (off := 4096) (p := ((⟨g1, 0, none⟩ : Addr) : Addr).add 4096) (v := .int .i64 x0.n) (Rd.of_own (hw.up 0)) (one_ok x0).1 (one_ok x0).2 (by kernel_rfl) (one_off _ _ _) (by kernel_rfl) ((vafter (cs := eSmemory_Memory.enc x0) (pre := []) (post := [.int .i64 x0.n]) (f := (fun j : Nat => .int .u32 (vx 0 x0.w j))) (n := 4096) (o := 4096) (j := 0) (by rw [List.nil_append, ← vec_range 0 x0.w (Value.int .u32)]; rfl) rfl).trans (by kernel_rfl))) [0, 1, 16, 20] (L' := [(0, .pointer (some (⟨g1, 0, none⟩ : Addr))), (1, .int .u32 a1), (16, .int .i64 (w64 (wu32 (a1.tdiv 4)))), (20, .int .i64 x0.n)]) (by kernel_rfl) ?_
    clear hs; intro a hs
    refine go_pvs 7 9 [0, 1, 13] hs (L' := [(0, .pointer (some (⟨g1, 0, none⟩ : Addr))), (1, .int .u32 a1), (13, .bool (decide ((w64 (wu32 (a1.tdiv 4))) ≥ x0.n)))]) (by kernel_rfl) ?_ rfl
    clear hs; intro a hs
    refine go_end (by kernel_rfl) ?_
    refine hK14 _ _ ?_
    refine go_cond hs (decide ((w64 (wu32 (a1.tdiv 4))) ≥ x0.n)) (by kernel_rfl) (fun hc => ?_) (fun hc => ?_)
    · replace H := ite_t H (of_decide_eq_true hc)
      have hb15 := hc
      rw [hb15] at hs
      refine go_seq_k fun K16 hK16 => ?_
      refine go_region ?_
      refine go_pvs 0 2 [6, 7] hs (L' := [(6, .pointer none), (7, .int .i64 3)]) (by kernel_rfl) ?_ rfl
      clear hs; intro a hs
      refine go_end (by kernel_rfl) ?_
      refine hK16 _ _ ?_
      refine wp_ret ?_
      refine ib_ret ?_
      refine th_ret ?_
      refine ret2 (t1 := 6) (v1 := .pointer none) (t2 := 7) (v2 := .int .i64 3) hs (by kernel_rfl) (by kernel_rfl) (by kernel_rfl) ?_
      refine ⟨_, rfl, ?_⟩
      refine hKR4 _ _ ?_
      intro a hs1
      have hs : Slots a _ [(1, .int .u32 a1), (2, .int .u8 a2), (13, .tuple #[.pointer none, .int .i64 3])] := hs1.keep [1, 2, 13] (by kernel_rfl)
      clear hs1
      refine go_pvs 3 8 [1, 2, 7, 8] hs (L' := [(1, .int .u32 a1), (2, .int .u8 a2), (7, .pointer none), (8, .int .i64 3)]) (by kernel_rfl) ?_ rfl
      clear hs; intro a hs
      refine go_end (by kernel_rfl) ?_
      refine hK3 _ _ ?_
      refine go_seq_k fun K17 hK17 => ?_
      have hJ2 : ∀ (a : Act) (w : World), Slots a 35 [(8, .int .i64 3)] → St ks0 w0 w [own 68 eSmemory_Memory (some (⟨g1, 0, none⟩ : Addr)) 1 [x0]] → memory_Memory_SetByte.j2 x0 = some r → K17 a w := by
        intro a w hs hw H
        unfold memory_Memory_SetByte.j2 at H
        refine hK17 _ _ ?_
        refine go_seq_k fun K19 hK19 => ?_
        refine go_region ?_
        refine go_pvs 0 2 [6] hs (L' := [(6, .int .i64 3)]) (by kernel_rfl) ?_ rfl
        clear hs; intro a hs
        refine go_end (by kernel_rfl) ?_
        refine hK19 _ _ ?_
        refine wp_ret ?_
        obtain rfl := Option.some.inj H
        refine ret1 (t := 6) (v := .int .i64 3) hs (by kernel_rfl) (by kernel_rfl) ?_
        exact ⟨rfl, hw.only 1⟩
      refine go_seq_k fun K18 hK18 => ?_
      refine go_region ?_
      refine go_pvs 0 2 [1, 2, 7, 8, 17] hs (L' := [(1, .int .u32 a1), (2, .int .u8 a2), (7, .pointer none), (8, .int .i64 3), (17, .bool false)]) (by kernel_rfl) ?_ rfl
      clear hs; intro a hs
      refine go_end (by kernel_rfl) ?_
      refine hK18 _ _ ?_
      refine go_cond hs false (by kernel_rfl) (fun hc => ?_) (fun hc => ?_)
      · cases hc
      · skip
        refine wp_skip ?_
        replace hw := hw.only 1
        exact hJ2 _ _ (hs.keep [8] (by kernel_rfl)) hw H
    · replace H := ite_f H (of_decide_eq_false hc)
      have hb20 := hc
      rw [hb20] at hs
      refine wp_skip ?_
      refine ib_norm ?_
      refine hK6 _ _ ?_
      refine go_seq_k fun K21 hK21 => ?_
      refine go_region ?_
      refine go_pvs 0 5 [24, 26] hs (L' := [(24, .int .u32 (wu32 (a1.tdiv 4))), (26, .pointer (some (((⟨g1, 0, none⟩ : Addr) : Addr).add 0)))]) (by kernel_rfl) ?_ rfl
      clear hs; intro a hs
      obtain ⟨hp22, H⟩ := ite_only H
      refine go_run hs (op := (Op.indexAddr 66 (Operand.tmp 26) (Operand.tmp 24))) (ty := 0) (dst := some 27) (g := none) (by kernel_rfl) (by kernel_rfl) (by kernel_rfl) (x_vidx (e := 23) (p := ((⟨g1, 0, none⟩ : Addr) : Addr).add 0) (n := 4096) (k := .u32) (i := (wu32 (a1.tdiv 4))) (sz := 1) (by kernel_rfl) (by kernel_rfl) (by kernel_rfl) (by kernel_rfl) hp22.1 hp22.2) [27] (L' := [(27, .pointer (some ((((⟨g1, 0, none⟩ : Addr) : Addr).add 0 : Addr).add ((wu32 (a1.tdiv 4) : Int).toNat * 1))))]) (by kernel_rfl) ?_
      clear hs; intro a hs
      refine go_pvs 6 8 [6, 7] hs (L' := [(6, .pointer (some ((((⟨g1, 0, none⟩ : Addr) : Addr).add 0 : Addr).add ((wu32 (a1.tdiv 4) : Int).toNat * 1)))), (7, .int .i64 0)]) (by kernel_rfl) ?_ rfl
      clear hs; intro a hs
      refine go_end (by kernel_rfl) ?_
      refine hK21 _ _ ?_
      refine wp_ret ?_
      refine ret2 (t1 := 6) (v1 := .pointer (some ((((⟨g1, 0, none⟩ : Addr) : Addr).add 0 : Addr).add ((wu32 (a1.tdiv 4) : Int).toNat * 1)))) (t2 := 7) (v2 := .int .i64 0) hs (by kernel_rfl) (by kernel_rfl) (by kernel_rfl) ?_
      refine ⟨_, rfl, ?_⟩
      refine hKR4 _ _ ?_
      intro a hs1
      have hs : Slots a _ [(1, .int .u32 a1), (2, .int .u8 a2), (13, .tuple #[.pointer (some ((((⟨g1, 0, none⟩ : Addr) : Addr).add 0 : Addr).add ((wu32 (a1.tdiv 4) : Int).toNat * 1))), .int .i64 0])] := hs1.keep [1, 2, 13] (by kernel_rfl)
      clear hs1
      refine go_pvs 3 8 [1, 2, 7, 8] hs (L' := [(1, .int .u32 a1), (2, .int .u8 a2), (7, .pointer (some ((((⟨g1, 0, none⟩ : Addr) : Addr).add 0 : Addr).add ((wu32 (a1.tdiv 4) : Int).toNat * 1)))), (8, .int .i64 0)]) (by kernel_rfl) ?_ rfl
      clear hs; intro a hs
      refine go_end (by kernel_rfl) ?_
      refine hK3 _ _ ?_
      refine go_seq_k fun K23 hK23 => ?_
      have hJ3 : ∀ (v30 : Smemory_Memory) (a : Act) (w : World), Slots a 35 [(8, .int .i64 0)] → St ks0 w0 w [own 68 eSmemory_Memory (some (⟨g1, 0, none⟩ : Addr)) 1 [v30]] → memory_Memory_SetByte.j3 v30 = some r → K23 a w := by
        intro v30 a w hs hw H
        unfold memory_Memory_SetByte.j3 at H
        refine hK23 _ _ ?_
        refine go_seq_k fun K31 hK31 => ?_
        refine go_region ?_
        refine go_pvs 0 2 [6] hs (L' := [(6, .int .i64 0)]) (by kernel_rfl) ?_ rfl
        clear hs; intro a hs
        refine go_end (by kernel_rfl) ?_
        refine hK31 _ _ ?_
        refine wp_ret ?_
        obtain rfl := Option.some.inj H
        refine ret1 (t := 6) (v := .int .i64 0) hs (by kernel_rfl) (by kernel_rfl) ?_
        exact ⟨rfl, hw.only 1⟩
      refine go_seq_k fun K24 hK24 => ?_
      refine go_region ?_
      refine go_pvs 0 2 [1, 2, 7, 8, 17] hs (L' := [(1, .int .u32 a1), (2, .int .u8 a2), (7, .pointer (some ((((⟨g1, 0, none⟩ : Addr) : Addr).add 0 : Addr).add ((wu32 (a1.tdiv 4) : Int).toNat * 1)))), (8, .int .i64 0), (17, .bool true)]) (by kernel_rfl) ?_ rfl
      clear hs; intro a hs
      refine go_end (by kernel_rfl) ?_
      refine hK24 _ _ ?_
      refine go_cond hs true (by kernel_rfl) (fun hc => ?_) (fun hc => ?_)
      · skip
        refine go_seq_k fun K25 hK25 => ?_
        refine go_region ?_
        refine go_pvs 0 4 [2, 7, 8, 9] hs (L' := [(2, .int .u8 a2), (7, .pointer (some ((((⟨g1, 0, none⟩ : Addr) : Addr).add 0 : Addr).add ((wu32 (a1.tdiv 4) : Int).toNat * 1)))), (8, .int .i64 0), (9, .int .u32 (wu32 ((a1.tmod 4) * 8)))]) (by kernel_rfl) ?_ rfl
        clear hs; intro a hs
        refine go_end (by kernel_rfl) ?_
        refine hK25 _ _ ?_
        refine go_region ?_
        refine go_pvs 0 3 [2, 8, 9, 21, 23] hs (L' := [(2, .int .u8 a2), (8, .int .i64 0), (9, .int .u32 (wu32 ((a1.tmod 4) * 8))), (21, .pointer (some ((((⟨g1, 0, none⟩ : Addr) : Addr).add 0 : Addr).add ((wu32 (a1.tdiv 4) : Int).toNat * 1)))), (23, .pointer (some ((((⟨g1, 0, none⟩ : Addr) : Addr).add 0 : Addr).add ((wu32 (a1.tdiv 4) : Int).toNat * 1))))]) (by kernel_rfl) ?_ rfl
        clear hs; intro a hs
        refine go_run hs (op := (Op.load 23 (Operand.tmp 23))) (ty := 23) (dst := some 24) (g := none) (by kernel_rfl) (by kernel_rfl) (by kernel_rfl) (x_ld (E := eSmemory_Memory) (off := 0 + (wu32 (a1.tdiv 4) : Int).toNat * 1) (p := (((⟨g1, 0, none⟩ : Addr) : Addr).add 0 : Addr).add ((wu32 (a1.tdiv 4) : Int).toNat * 1)) (v := .int .u32 (vx 0 x0.w (wu32 (a1.tdiv 4) : Int).toNat)) (Rd.of_own (hw.up 0)) (one_ok x0).1 (one_ok x0).2 (by kernel_rfl) (by simp only [add_add', Int.toNat_zero, Nat.zero_mul, Nat.zero_add, Nat.mul_one] <;> rfl) (by kernel_rfl) (vget (cs := eSmemory_Memory.enc x0) (pre := []) (post := [.int .i64 x0.n]) (f := (fun j : Nat => .int .u32 (vx 0 x0.w j))) (n := 4096) (o := 0) (i := (wu32 (a1.tdiv 4) : Int).toNat) (by rw [List.nil_append, ← vec_range 0 x0.w (Value.int .u32)]; rfl) rfl (by have := hp22; omega))) [2, 8, 9, 21, 24] (L' := [(2, .int .u8 a2), (8, .int .i64 0), (9, .int .u32 (wu32 ((a1.tmod 4) * 8))), (21, .pointer (some ((((⟨g1, 0, none⟩ : Addr) : Addr).add 0 : Addr).add ((wu32 (a1.tdiv 4) : Int).toNat * 1)))), (24, .int .u32 (vx 0 x0.w (wu32 (a1.tdiv 4) : Int).toNat))]) (by kernel_rfl) ?_
        clear hs; intro a hs
        refine go_pvs 4 5 [2, 8, 9, 21, 24, 25] hs (L' := [(2, .int .u8 a2), (8, .int .i64 0), (9, .int .u32 (wu32 ((a1.tmod 4) * 8))), (21, .pointer (some ((((⟨g1, 0, none⟩ : Addr) : Addr).add 0 : Addr).add ((wu32 (a1.tdiv 4) : Int).toNat * 1)))), (24, .int .u32 (vx 0 x0.w (wu32 (a1.tdiv 4) : Int).toNat)), (25, .int .u32 (wu32 ((a1.tmod 4) * 8)))]) (by kernel_rfl) ?_ rfl
        clear hs; intro a hs
        obtain ⟨hp26, H⟩ := ite_only H
        refine go_run hs (op := (Op.binOp BinOp.shl 23 (Operand.const (Value.int IntKind.u32 255)) (Operand.tmp 25) 23)) (ty := 23) (dst := some 26) (g := none) (by kernel_rfl) (by kernel_rfl) (by kernel_rfl) (x_shl (k := .u32) (k' := .u32) (m := 255) (n := wu32 ((a1.tmod 4) * 8)) (by kernel_rfl) (by kernel_rfl) hp26) [2, 8, 9, 21, 24, 26] (L' := [(2, .int .u8 a2), (8, .int .i64 0), (9, .int .u32 (wu32 ((a1.tmod 4) * 8))), (21, .pointer (some ((((⟨g1, 0, none⟩ : Addr) : Addr).add 0 : Addr).add ((wu32 (a1.tdiv 4) : Int).toNat * 1)))), (24, .int .u32 (vx 0 x0.w (wu32 (a1.tdiv 4) : Int).toNat)), (26, .int .u32 (shl .u32 255 (wu32 ((a1.tmod 4) * 8))))]) (by kernel_rfl) ?_
        clear hs; intro a hs
        refine go_pvs 6 10 [8, 21, 27, 29, 30] hs (L' := [(8, .int .i64 0), (21, .pointer (some ((((⟨g1, 0, none⟩ : Addr) : Addr).add 0 : Addr).add ((wu32 (a1.tdiv 4) : Int).toNat * 1)))), (27, .int .u32 (bandn .u32 (vx 0 x0.w (wu32 (a1.tdiv 4) : Int).toNat) (shl .u32 255 (wu32 ((a1.tmod 4) * 8))))), (29, .int .u32 (wu32 a2)), (30, .int .u32 (wu32 ((a1.tmod 4) * 8)))]) (by kernel_rfl) ?_ rfl
        clear hs; intro a hs
        obtain ⟨hp27, H⟩ := ite_only H
        refine go_run hs (op := (Op.binOp BinOp.shl 23 (Operand.tmp 29) (Operand.tmp 30) 23)) (ty := 23) (dst := some 31) (g := none) (by kernel_rfl) (by kernel_rfl) (by kernel_rfl) (x_shl (k := .u32) (k' := .u32) (m := wu32 a2) (n := wu32 ((a1.tmod 4) * 8)) (by kernel_rfl) (by kernel_rfl) hp27) [8, 21, 27, 31] (L' := [(8, .int .i64 0), (21, .pointer (some ((((⟨g1, 0, none⟩ : Addr) : Addr).add 0 : Addr).add ((wu32 (a1.tdiv 4) : Int).toNat * 1)))), (27, .int .u32 (bandn .u32 (vx 0 x0.w (wu32 (a1.tdiv 4) : Int).toNat) (shl .u32 255 (wu32 ((a1.tmod 4) * 8))))), (31, .int .u32 (shl .u32 (wu32 a2) (wu32 ((a1.tmod 4) * 8))))]) (by kernel_rfl) ?_
        clear hs; intro a hs
        refine go_pvs 11 13 [8, 32, 33] hs (L' := [(8, .int .i64 0), (32, .int .u32 (bor .u32 (bandn .u32 (vx 0 x0.w (wu32 (a1.tdiv 4) : Int).toNat) (shl .u32 255 (wu32 ((a1.tmod 4) * 8)))) (shl .u32 (wu32 a2) (wu32 ((a1.tmod 4) * 8))))), (33, .pointer (some ((((⟨g1, 0, none⟩ : Addr) : Addr).add 0 : Addr).add ((wu32 (a1.tdiv 4) : Int).toNat * 1))))]) (by kernel_rfl) ?_ rfl
        clear hs; intro a hs
        obtain ⟨wd28, hx29, hw⟩ := x_put (P := Try.prog) (L := [(8, .int .i64 0), (32, .int .u32 (bor .u32 (bandn .u32 (vx 0 x0.w (wu32 (a1.tdiv 4) : Int).toNat) (shl .u32 255 (wu32 ((a1.tmod 4) * 8)))) (shl .u32 (wu32 a2) (wu32 ((a1.tmod 4) * 8))))), (33, .pointer (some ((((⟨g1, 0, none⟩ : Addr) : Addr).add 0 : Addr).add ((wu32 (a1.tdiv 4) : Int).toNat * 1))))]) (ty := 0) (t := 23) (x := (Operand.tmp 33)) (y := (Operand.tmp 32)) (off := 0 + (wu32 (a1.tdiv 4) : Int).toNat * 1) (p := (((⟨g1, 0, none⟩ : Addr) : Addr).add 0 : Addr).add ((wu32 (a1.tdiv 4) : Int).toNat * 1)) (v := .int .u32 (bor .u32 (bandn .u32 (vx 0 x0.w (wu32 (a1.tdiv 4) : Int).toNat) (shl .u32 255 (wu32 ((a1.tmod 4) * 8)))) (shl .u32 (wu32 a2) (wu32 ((a1.tmod 4) * 8))))) (vs := [.int .u32 (bor .u32 (bandn .u32 (vx 0 x0.w (wu32 (a1.tdiv 4) : Int).toNat) (shl .u32 255 (wu32 ((a1.tmod 4) * 8)))) (shl .u32 (wu32 a2) (wu32 ((a1.tmod 4) * 8))))]) (i := 0) (e' := ({ x0 with w := vset x0.w (wu32 (a1.tdiv 4) : Int).toNat (bor .u32 (bandn .u32 (vx 0 x0.w (wu32 (a1.tdiv 4) : Int).toNat) (shl .u32 255 (wu32 ((a1.tmod 4) * 8)))) (shl .u32 (wu32 a2) (wu32 ((a1.tmod 4) * 8)))) } : Smemory_Memory)) hw rfl (one_ok x0).1 (one_ok x0).2 (by kernel_rfl) (by simp only [add_add', Int.toNat_zero, Nat.zero_mul, Nat.zero_add, Nat.mul_one] <;> rfl) (by kernel_rfl) rfl (by kernel_rfl) (by have := hp22; show 0 + _ * 1 + 1 ≤ 4097; omega) (by simp [Value.oneCell']) (vput (cs := eSmemory_Memory.enc x0) (cs' := eSmemory_Memory.enc ({ x0 with w := vset x0.w (wu32 (a1.tdiv 4) : Int).toNat (bor .u32 (bandn .u32 (vx 0 x0.w (wu32 (a1.tdiv 4) : Int).toNat) (shl .u32 255 (wu32 ((a1.tmod 4) * 8)))) (shl .u32 (wu32 a2) (wu32 ((a1.tmod 4) * 8)))) })) (pre := []) (post := [.int .i64 x0.n]) (f := (fun j : Nat => .int .u32 (vx 0 x0.w j))) (f' := (fun j : Nat => .int .u32 (vx 0 (vset x0.w (wu32 (a1.tdiv 4) : Int).toNat (bor .u32 (bandn .u32 (vx 0 x0.w (wu32 (a1.tdiv 4) : Int).toNat) (shl .u32 255 (wu32 ((a1.tmod 4) * 8)))) (shl .u32 (wu32 a2) (wu32 ((a1.tmod 4) * 8))))) j))) (n := 4096) (o := 0) (i := (wu32 (a1.tdiv 4) : Int).toNat) (v := .int .u32 (bor .u32 (bandn .u32 (vx 0 x0.w (wu32 (a1.tdiv 4) : Int).toNat) (shl .u32 255 (wu32 ((a1.tmod 4) * 8)))) (shl .u32 (wu32 a2) (wu32 ((a1.tmod 4) * 8))))) (by rw [List.nil_append, ← vec_range 0 x0.w (Value.int .u32)]; rfl) (by rw [List.nil_append, ← vec_range 0 (vset x0.w (wu32 (a1.tdiv 4) : Int).toNat (bor .u32 (bandn .u32 (vx 0 x0.w (wu32 (a1.tdiv 4) : Int).toNat) (shl .u32 255 (wu32 ((a1.tmod 4) * 8)))) (shl .u32 (wu32 a2) (wu32 ((a1.tmod 4) * 8))))) (Value.int .u32)]; rfl) rfl (by have := hp22; omega) (vx_put (by have := hp22; omega)))
        refine go_unit hs (op := (Op.store 23 (Operand.tmp 33) (Operand.tmp 32))) (ty := 0) (dst := none) (g := none) (by kernel_rfl) (by kernel_rfl) (by kernel_rfl) hx29 [8] (L' := [(8, .int .i64 0)]) (by kernel_rfl) ?_
        clear hs; intro a hs
        replace hw : St ks0 w0 wd28 [own 68 eSmemory_Memory (some (⟨g1, 0, none⟩ : Addr)) 1 [{ x0 with w := vset x0.w (wu32 (a1.tdiv 4) : Int).toNat (bor .u32 (bandn .u32 (vx 0 x0.w (wu32 (a1.tdiv 4) : Int).toNat) (shl .u32 255 (wu32 ((a1.tmod 4) * 8)))) (shl .u32 (wu32 a2) (wu32 ((a1.tmod 4) * 8)))) }]] := hw
        refine go_end (by kernel_rfl) ?_
        replace hw := hw.only 1
        exact hJ3 ({ x0 with w := vset x0.w (wu32 (a1.tdiv 4) : Int).toNat (bor .u32 (bandn .u32 (vx 0 x0.w (wu32 (a1.tdiv 4) : Int).toNat) (shl .u32 255 (wu32 ((a1.tmod 4) * 8)))) (shl .u32 (wu32 a2) (wu32 ((a1.tmod 4) * 8)))) }) _ _ (hs.keep [8] (by kernel_rfl)) hw H
      · cases hc

/-! (*rivet/memory.Memory).Place: function 16 -/
noncomputable def memory_Memory_Place.j2 (a1 : Int) (x0 : Smemory_Memory) (l2 : List Int) : Option (Int × Smemory_Memory) := (if 0 ≤ a1 ∧ a1 ≤ x0.n ∧ x0.n ≤ ((4096 : Nat) : Int) then some (0, { x0 with w := vcopy x0.w a1.toNat (l2.take ((x0.w.toList.take x0.n.toNat).drop a1.toNat).length) }) else none)
noncomputable def memory_Memory_Place.j1 (x0 : Smemory_Memory) (a1 : Int) (l2 : List Int) (v7 : Bool) : Option (Int × Smemory_Memory) := (if v7 = true then some (11, x0) else memory_Memory_Place.j2 a1 x0 l2)
noncomputable def memory_Memory_Place (x0 : Smemory_Memory) (a1 : Int) (l2 : List Int) : Option (Int × Smemory_Memory) := (if a1 < 0 then memory_Memory_Place.j1 x0 a1 l2 true else (if a1 > x0.n then memory_Memory_Place.j1 x0 a1 l2 true else memory_Memory_Place.j1 x0 a1 l2 (decide ((l2.length : Int) > (w64 (x0.n - a1))))))
set_option maxRecDepth 100000 in
set_option maxHeartbeats 4000000 in
theorem memory_Memory_Place.calls (ks0 : List Nat) (A0 : Option Addr) (x0 : Smemory_Memory) (a1 : Int) (A2 : Option Addr) (c2 : Nat) (l2 : List Int) (r : Int × Smemory_Memory) (w0 : World) (hw : St ks0 w0 w0 [mSmemory_Memory A0 x0]) (hr2 : ∀ w', Kp ks0 w0 w' → Rd w' (eI .u32) A2 c2 l2) (H : memory_Memory_Place x0 a1 l2 = some r) :
    Calls Try.prog 16 #[.pointer A0, .int .i64 a1, .slice A2 l2.length c2] w0 fun e w' => e = .returned (.int .i64 r.1) ∧ St ks0 w0 w' [mSmemory_Memory A0 r.2] := by
  unfold memory_Memory_Place at H
  refine go_fn Try.func16 rfl 39 Try.ntmps16 [(0, .pointer A0), (1, .int .i64 a1), (2, .slice A2 l2.length c2)] (by kernel_rfl) rfl ?_
  intro a hs
  obtain ⟨g1, hAg, hwg⟩ := St.one hw
  clear hw; subst hAg; have hw := hwg; clear hwg
  refine go_seq_k fun K2 hK2 => ?_
  refine go_region ?_
  refine go_pvs 0 1 [0, 1, 2] hs (L' := [(0, .pointer (some (⟨g1, 0, none⟩ : Addr))), (1, .int .i64 a1), (2, .slice A2 l2.length c2)]) (by kernel_rfl) ?_ rfl
  clear hs; intro a hs
  refine go_end (by kernel_rfl) ?_
  refine hK2 _ _ ?_
  refine go_seq_k fun K3 hK3 => ?_
  have hJ2 : ∀ (a : Act) (w : World), Slots a 39 [(0, .pointer (some (⟨g1, 0, none⟩ : Addr))), (1, .int .i64 a1), (2, .slice A2 l2.length c2)] → St ks0 w0 w [own 68 eSmemory_Memory (some (⟨g1, 0, none⟩ : Addr)) 1 [x0]] → memory_Memory_Place.j2 a1 x0 l2 = some r → K3 a w := by
    intro a w hs hw H
    unfold memory_Memory_Place.j2 at H
    refine hK3 _ _ ?_
    refine go_seq_k fun K11 hK11 => ?_
    refine t_region [(0, true), (1, true), (2, true), (3, true), (4, true), (5, true), (6, true), (7, false), (8, true), (9, true)] [10] (by kernel_rfl) (by kernel_rfl) (fun c a d v w h => by cases d <;> exact h) ?_
    refine t_pvs [0, 1, 2, 3, 4, 5, 6] [(7, false), (8, true), (9, true)] [2, 30, 31, 34] hs (L' := [(2, .slice A2 l2.length c2), (30, .pointer (some (((⟨g1, 0, none⟩ : Addr) : Addr).add 0))), (31, .int .i64 a1), (34, .pointer (some (((⟨g1, 0, none⟩ : Addr) : Addr).add 4096)))]) (by kernel_rfl) ?_ (by kernel_rfl)
    clear hs; intro a hs
    refine t_rd hs (op := (Op.load 3 (Operand.tmp 34))) (ty := 3) (dst := some 35) (g := none) (by kernel_rfl) (by kernel_rfl) (by kernel_rfl) (fun wx hbx => (x_ld (E := eSmemory_Memory) (off := 4096) (p := ((⟨g1, 0, none⟩ : Addr) : Addr).add 4096) (v := .int .i64 x0.n) ((Rd.of_own (hw.up 0)).below hbx) (one_ok x0).1 (one_ok x0).2 (by kernel_rfl) (one_off _ _ _) (by kernel_rfl) ((vafter (cs := eSmemory_Memory.enc x0) (pre := []) (post := [.int .i64 x0.n]) (f := (fun j : Nat => .int .u32 (vx 0 x0.w j))) (n := 4096) (o := 4096) (j := 0) (by rw [List.nil_append, ← vec_range 0 x0.w (Value.int .u32)]; rfl) rfl).trans (by kernel_rfl)))) [2, 30, 31, 35] (L' := [(2, .slice A2 l2.length c2), (30, .pointer (some (((⟨g1, 0, none⟩ : Addr) : Addr).add 0))), (31, .int .i64 a1), (35, .int .i64 x0.n)]) (by kernel_rfl) ?_
    clear hs; intro a hs
    obtain ⟨hp12, H⟩ := ite_only H
    obtain ⟨Aa13, cc14, hx15, hc16, hA17, hF18⟩ := x_vcut (P := Try.prog) (L := [(2, .slice A2 l2.length c2), (30, .pointer (some (((⟨g1, 0, none⟩ : Addr) : Addr).add 0))), (31, .int .i64 a1), (35, .int .i64 x0.n)]) (ty := 22) (E := eSmemory_Memory) (t := 66) (e := 23) (y := (Operand.tmp 30)) (p := ((⟨g1, 0, none⟩ : Addr) : Addr).add 0) (n := 4096) (o := 0) (k := .u32) (l := a1) (h := x0.n) (lo := (some (Operand.tmp 31))) (hi := (some (Operand.tmp 35))) (x := x0) (v := x0.w) (pre := []) (post := [.int .i64 x0.n]) (by kernel_rfl) (by kernel_rfl) (by kernel_rfl) (one_off _ _ _) (.inl ⟨_, _, rfl, (by exact (show evD [(2, .slice A2 l2.length c2), (30, .pointer (some (((⟨g1, 0, none⟩ : Addr) : Addr).add 0))), (31, .int .i64 a1), (35, .int .i64 x0.n)] (Operand.tmp 31) = .int .i64 a1 by kernel_rfl))⟩) (.inl ⟨_, _, rfl, (by exact (show evD [(2, .slice A2 l2.length c2), (30, .pointer (some (((⟨g1, 0, none⟩ : Addr) : Addr).add 0))), (31, .int .i64 a1), (35, .int .i64 x0.n)] (Operand.tmp 35) = .int .i64 x0.n by kernel_rfl))⟩) hp12.1 hp12.2.1 hp12.2.2 rfl rfl
    refine t_run hs (op := (Op.slice 66 (Operand.tmp 30) (some (Operand.tmp 31)) (some (Operand.tmp 35)) none)) (ty := 22) (dst := some 36) (g := none) (by kernel_rfl) (by kernel_rfl) (by kernel_rfl) (fun wx => (hx15 wx)) [2, 36] (L' := [(2, .slice A2 l2.length c2), (36, .slice Aa13 ((x0.w.toList.take x0.n.toNat).drop a1.toNat).length cc14)]) (by kernel_rfl) ?_
    clear hs; intro a hs
    refine t_pvs [9] [] [36, 37] hs (L' := [(36, .slice Aa13 ((x0.w.toList.take x0.n.toNat).drop a1.toNat).length cc14), (37, .slice A2 l2.length c2)]) (by kernel_rfl) ?_ (by kernel_rfl)
    clear hs; intro a hs
    refine t_end ?_
    intro wq hbq
    replace hw := hw.behind hbq
    have hsrc20 : Rd _ (eI .u32) A2 c2 l2 := (hr2 _ hw.kp)
    obtain ⟨wd21, hx22, hw⟩ := x_copyv0 (P := Try.prog) (L := [(36, .slice Aa13 ((x0.w.toList.take x0.n.toNat).drop a1.toNat).length cc14), (37, .slice A2 l2.length c2)]) (dT := 22) (sT := 22) (e := 23) (y := (Operand.tmp 36)) (z := (Operand.tmp 37)) (ty := 3) (x' := ({ x0 with w := vcopy x0.w a1.toNat (l2.take ((x0.w.toList.take x0.n.toNat).drop a1.toNat).length) } : Smemory_Memory)) (v := x0.w) (post := [.int .i64 x0.n]) (A' := Aa13) (len := ((x0.w.toList.take x0.n.toNat).drop a1.toNat).length) (dcap := cc14) hw (by kernel_rfl) (by kernel_rfl) (by kernel_rfl) hA17 hF18 (by kernel_rfl) hsrc20 (eSmemory_Memory_is _) (eSmemory_Memory_is _)
    refine p_run hs (op := (Op.call { callee := (Callee.builtin Builtin.copy), args := #[(Operand.tmp 36), (Operand.tmp 37)], argTypes := #[22, 22] })) (ty := 3) (dst := some 38) (g := none) (by kernel_rfl) (by kernel_rfl) (by kernel_rfl) hx22 [] (L' := []) (by kernel_rfl) ?_
    clear hs; intro a hs
    refine p_end ?_
    refine hK11 _ _ ?_
    refine go_seq_k fun K23 hK23 => ?_
    refine go_region ?_
    refine go_pvs 0 1 [6] hs (L' := [(6, .int .i64 0)]) (by kernel_rfl) ?_ rfl
    clear hs; intro a hs
    refine go_end (by kernel_rfl) ?_
    refine hK23 _ _ ?_
    refine wp_ret ?_
    obtain rfl := Option.some.inj H
    refine ret1 (t := 6) (v := .int .i64 0) hs (by kernel_rfl) (by kernel_rfl) ?_
    exact ⟨rfl, hw.only 1⟩
  refine go_seq_k fun K4 hK4 => ?_
  have hJ1 : ∀ (v7 : Bool) (a : Act) (w : World), Slots a 39 [(0, .pointer (some (⟨g1, 0, none⟩ : Addr))), (1, .int .i64 a1), (2, .slice A2 l2.length c2), (27, .bool v7)] → St ks0 w0 w [own 68 eSmemory_Memory (some (⟨g1, 0, none⟩ : Addr)) 1 [x0]] → memory_Memory_Place.j1 x0 a1 l2 v7 = some r → K4 a w := by
    intro v7 a w hs hw H
    unfold memory_Memory_Place.j1 at H
    refine hK4 _ _ ?_
    refine go_cond hs v7 (by kernel_rfl) (fun hc => ?_) (fun hc => ?_)
    · replace H := ite_t H hc
      have hb8 := hc
      rw [hb8] at hs
      refine go_seq_k fun K9 hK9 => ?_
      refine go_region ?_
      refine go_pvs 0 1 [6] hs (L' := [(6, .int .i64 11)]) (by kernel_rfl) ?_ rfl
      clear hs; intro a hs
      refine go_end (by kernel_rfl) ?_
      refine hK9 _ _ ?_
      refine wp_ret ?_
      refine th_ret ?_
      obtain rfl := Option.some.inj H
      refine ret1 (t := 6) (v := .int .i64 11) hs (by kernel_rfl) (by kernel_rfl) ?_
      exact ⟨rfl, hw.only 1⟩
    · replace H := ite_f H (ff hc)
      have hb10 := hc
      rw [hb10] at hs
      refine wp_skip ?_
      replace hw := hw.only 1
      exact hJ2 _ _ (hs.keep [0, 1, 2] (by kernel_rfl)) hw H
  refine go_region ?_
  refine go_pvs 0 3 [0, 1, 2, 9] hs (L' := [(0, .pointer (some (⟨g1, 0, none⟩ : Addr))), (1, .int .i64 a1), (2, .slice A2 l2.length c2), (9, .bool (decide (a1 < 0)))]) (by kernel_rfl) ?_ rfl
  clear hs; intro a hs
  cases hb5 : (decide (a1 < 0))
  · replace H := ite_f H (of_decide_eq_false hb5)
    rw [hb5] at hs
    refine go_pvs 3 7 [0, 1, 2, 9, 10, 13] hs (L' := [(0, .pointer (some (⟨g1, 0, none⟩ : Addr))), (1, .int .i64 a1), (2, .slice A2 l2.length c2), (9, .bool false), (10, .int .i64 a1), (13, .pointer (some (((⟨g1, 0, none⟩ : Addr) : Addr).add 4096)))]) (by kernel_rfl) ?_ rfl
    clear hs; intro a hs
    refine go_run hs (op := (Op.load 3 (Operand.tmp 13))) (ty := 3) (dst := some 14) (g := some (2, false)) (by kernel_rfl) (by kernel_rfl) (by kernel_rfl) (x_ld (E := eSmemory_Memory) (off := 4096) (p := ((⟨g1, 0, none⟩ : Addr) : Addr).add 4096) (v := .int .i64 x0.n) (Rd.of_own (hw.up 0)) (one_ok x0).1 (one_ok x0).2 (by kernel_rfl) (one_off _ _ _) (by kernel_rfl) ((vafter (cs := eSmemory_Memory.enc x0) (pre := []) (post := [.int .i64 x0.n]) (f := (fun j : Nat => .int .u32 (vx 0 x0.w j))) (n := 4096) (o := 4096) (j := 0) (by rw [List.nil_append, ← vec_range 0 x0.w (Value.int .u32)]; rfl) rfl).trans (by kernel_rfl))) [0, 1, 2, 9, 10, 14] (L' := [(0, .pointer (some (⟨g1, 0, none⟩ : Addr))), (1, .int .i64 a1), (2, .slice A2 l2.length c2), (9, .bool false), (10, .int .i64 a1), (14, .int .i64 x0.n)]) (by kernel_rfl) ?_
    clear hs; intro a hs
    refine go_pvs 8 11 [0, 1, 2, 17] hs (L' := [(0, .pointer (some (⟨g1, 0, none⟩ : Addr))), (1, .int .i64 a1), (2, .slice A2 l2.length c2), (17, .bool (decide (a1 > x0.n)))]) (by kernel_rfl) ?_ rfl
    clear hs; intro a hs
    cases hb6 : (decide (a1 > x0.n))
    · replace H := ite_f H (of_decide_eq_false hb6)
      rw [hb6] at hs
      refine go_pvs 11 16 [0, 1, 2, 17, 19, 22] hs (L' := [(0, .pointer (some (⟨g1, 0, none⟩ : Addr))), (1, .int .i64 a1), (2, .slice A2 l2.length c2), (17, .bool false), (19, .int .i64 (l2.length : Int)), (22, .pointer (some (((⟨g1, 0, none⟩ : Addr) : Addr).add 4096)))]) (by kernel_rfl) ?_ rfl
      clear hs; intro a hs
      refine go_run hs (op := (Op.load 3 (Operand.tmp 22))) (ty := 3) (dst := some 23) (g := some (10, false)) (by kernel_rfl) (by kernel_rfl) (by kernel_rfl) (x_ld (E := eSmemory_Memory) (off := 4096) (p := ((⟨g1, 0, none⟩ : Addr) : Addr).add 4096) (v := .int .i64 x0.n) (Rd.of_own (hw.up 0)) (one_ok x0).1 (one_ok x0).2 (by kernel_rfl) (one_off _ _ _) (by kernel_rfl) ((vafter (cs := eSmemory_Memory.enc x0) (pre := []) (post := [.int .i64 x0.n]) (f := (fun j : Nat => .int .u32 (vx 0 x0.w j))) (n := 4096) (o := 4096) (j := 0) (by rw [List.nil_append, ← vec_range 0 x0.w (Value.int .u32)]; rfl) rfl).trans (by kernel_rfl))) [0, 1, 2, 17, 19, 23] (L' := [(0, .pointer (some (⟨g1, 0, none⟩ : Addr))), (1, .int .i64 a1), (2, .slice A2 l2.length c2), (17, .bool false), (19, .int .i64 (l2.length : Int)), (23, .int .i64 x0.n)]) (by kernel_rfl) ?_
      clear hs; intro a hs
      refine go_pvs 17 21 [0, 1, 2, 27] hs (L' := [(0, .pointer (some (⟨g1, 0, none⟩ : Addr))), (1, .int .i64 a1), (2, .slice A2 l2.length c2), (27, .bool (decide ((l2.length : Int) > (w64 (x0.n - a1)))))]) (by kernel_rfl) ?_ rfl
      clear hs; intro a hs
      refine go_end (by kernel_rfl) ?_
      replace hw := hw.only 1
      exact hJ1 (decide ((l2.length : Int) > (w64 (x0.n - a1)))) _ _ (hs.keep [0, 1, 2, 27] (by kernel_rfl)) hw H
    · replace H := ite_t H (of_decide_eq_true hb6)
      rw [hb6] at hs
      refine go_pvs 11 21 [0, 1, 2, 27] hs (L' := [(0, .pointer (some (⟨g1, 0, none⟩ : Addr))), (1, .int .i64 a1), (2, .slice A2 l2.length c2), (27, .bool true)]) (by kernel_rfl) ?_ rfl
      clear hs; intro a hs
      refine go_end (by kernel_rfl) ?_
      replace hw := hw.only 1
      exact hJ1 true _ _ (hs.keep [0, 1, 2, 27] (by kernel_rfl)) hw H
  · replace H := ite_t H (of_decide_eq_true hb5)
    rw [hb5] at hs
    refine go_pvs 3 21 [0, 1, 2, 27] hs (L' := [(0, .pointer (some (⟨g1, 0, none⟩ : Addr))), (1, .int .i64 a1), (2, .slice A2 l2.length c2), (27, .bool true)]) (by kernel_rfl) ?_ rfl
    clear hs; intro a hs
    refine go_end (by kernel_rfl) ?_
    replace hw := hw.only 1
    exact hJ1 true _ _ (hs.keep [0, 1, 2, 27] (by kernel_rfl)) hw H

/-! (*rivet/memory.Memory).Words: function 17 -/
noncomputable def memory_Memory_Words (x0 : Smemory_Memory) : Option ((List Int) × Smemory_Memory) := (if 0 ≤ (0 : Int) ∧ (0 : Int) ≤ x0.n ∧ x0.n ≤ ((4096 : Nat) : Int) then ((slices_Clone_uint32_uint32 ((x0.w.toList.take x0.n.toNat).drop (0 : Int).toNat)).bind fun t13 => (some (t13, x0))) else none)
set_option maxRecDepth 100000 in
set_option maxHeartbeats 4000000 in
theorem memory_Memory_Words.calls (ks0 : List Nat) (A0 : Option Addr) (x0 : Smemory_Memory) (r : (List Int) × Smemory_Memory) (w0 : World) (hw : St ks0 w0 w0 [mSmemory_Memory A0 x0]) (H : memory_Memory_Words x0 = some r) :
    Calls Try.prog 17 #[.pointer A0] w0 fun e w' => ∃ A_0 c_0, e = .returned (.slice A_0 r.1.length c_0) ∧ St ks0 w0 w' [own 23 (eI .u32) A_0 c_0 r.1, mSmemory_Memory A0 r.2] := by
  unfold memory_Memory_Words at H
  refine go_fn Try.func17 rfl 12 Try.ntmps17 [(0, .pointer A0)] (by kernel_rfl) rfl ?_
  intro a hs
  obtain ⟨g1, hAg, hwg⟩ := St.one hw
  clear hw; subst hAg; have hw := hwg; clear hwg
  refine go_seq_k fun K2 hK2 => ?_
  refine go_region ?_
  refine go_pvs 0 1 [0] hs (L' := [(0, .pointer (some (⟨g1, 0, none⟩ : Addr)))]) (by kernel_rfl) ?_ rfl
  clear hs; intro a hs
  refine go_end (by kernel_rfl) ?_
  refine hK2 _ _ ?_
  refine go_seq_k fun K3 hK3 => ?_
  refine t_region [(0, true), (1, true), (2, true), (3, true), (4, true), (5, true), (6, false), (7, true)] [8, 9] (by kernel_rfl) (by kernel_rfl) (fun c a d v w h => by cases d <;> exact h) ?_
  refine t_pvs [0, 1, 2, 3, 4, 5] [(6, false), (7, true)] [5, 8] hs (L' := [(5, .pointer (some (((⟨g1, 0, none⟩ : Addr) : Addr).add 0))), (8, .pointer (some (((⟨g1, 0, none⟩ : Addr) : Addr).add 4096)))]) (by kernel_rfl) ?_ (by kernel_rfl)
  clear hs; intro a hs
  refine t_rd hs (op := (Op.load 3 (Operand.tmp 8))) (ty := 3) (dst := some 9) (g := none) (by kernel_rfl) (by kernel_rfl) (by kernel_rfl) (fun wx hbx => (x_ld (E := eSmemory_Memory) (off := 4096) (p := ((⟨g1, 0, none⟩ : Addr) : Addr).add 4096) (v := .int .i64 x0.n) ((Rd.of_own (hw.up 0)).below hbx) (one_ok x0).1 (one_ok x0).2 (by kernel_rfl) (one_off _ _ _) (by kernel_rfl) ((vafter (cs := eSmemory_Memory.enc x0) (pre := []) (post := [.int .i64 x0.n]) (f := (fun j : Nat => .int .u32 (vx 0 x0.w j))) (n := 4096) (o := 4096) (j := 0) (by rw [List.nil_append, ← vec_range 0 x0.w (Value.int .u32)]; rfl) rfl).trans (by kernel_rfl)))) [5, 9] (L' := [(5, .pointer (some (((⟨g1, 0, none⟩ : Addr) : Addr).add 0))), (9, .int .i64 x0.n)]) (by kernel_rfl) ?_
  clear hs; intro a hs
  obtain ⟨hp4, H⟩ := ite_only H
  obtain ⟨Aa5, cc6, hx7, hc8, hA9, hF10⟩ := x_vcut (P := Try.prog) (L := [(5, .pointer (some (((⟨g1, 0, none⟩ : Addr) : Addr).add 0))), (9, .int .i64 x0.n)]) (ty := 22) (E := eSmemory_Memory) (t := 66) (e := 23) (y := (Operand.tmp 5)) (p := ((⟨g1, 0, none⟩ : Addr) : Addr).add 0) (n := 4096) (o := 0) (k := .u32) (l := (0 : Int)) (h := x0.n) (lo := none) (hi := (some (Operand.tmp 9))) (x := x0) (v := x0.w) (pre := []) (post := [.int .i64 x0.n]) (by kernel_rfl) (by kernel_rfl) (by kernel_rfl) (one_off _ _ _) (.inr ⟨rfl, rfl⟩) (.inl ⟨_, _, rfl, (by exact (show evD [(5, .pointer (some (((⟨g1, 0, none⟩ : Addr) : Addr).add 0))), (9, .int .i64 x0.n)] (Operand.tmp 9) = .int .i64 x0.n by kernel_rfl))⟩) hp4.1 hp4.2.1 hp4.2.2 rfl rfl
  refine t_run hs (op := (Op.slice 66 (Operand.tmp 5) none (some (Operand.tmp 9)) none)) (ty := 22) (dst := some 10) (g := none) (by kernel_rfl) (by kernel_rfl) (by kernel_rfl) (fun wx => (hx7 wx)) [10] (L' := [(10, .slice Aa5 ((x0.w.toList.take x0.n.toNat).drop (0 : Int).toNat).length cc6)]) (by kernel_rfl) ?_
  clear hs; intro a hs
  refine t_end ?_
  intro wq hbq
  replace hw := hw.behind hbq
  obtain ⟨t13, hx14, H⟩ := bind_some H
  refine p_call hs (op := (Op.call { callee := (Callee.value (Operand.func 39)), args := #[(Operand.tmp 10)], argTypes := #[22] })) (ty := 22) (dst := some 11) (g := none) (by kernel_rfl) (by kernel_rfl) (by kernel_rfl) (f := 39) (args := #[.slice Aa5 ((x0.w.toList.take x0.n.toNat).drop (0 : Int).toNat).length cc6]) (by kernel_rfl) (slices_Clone_uint32_uint32.calls Aa5 cc6 ((x0.w.toList.take x0.n.toNat).drop (0 : Int).toNat) t13 _ (hc8 _ (Rd.of_own (hw.up 0))) hx14) ?_
  rintro e wd17 ⟨Aa15, cc16, rfl, hw18⟩
  refine ⟨_, rfl, ?_⟩
  replace hw := hw.call hw18
  intro a hs1
  replace hs : Slots a 12 [(11, .slice Aa15 t13.length cc16)] := hs1.keep [11] (by kernel_rfl)
  clear hs1
  refine p_pvs [9] [] [2] hs (L' := [(2, .slice Aa15 t13.length cc16)]) (by kernel_rfl) ?_
  clear hs; intro a hs
  refine p_end ?_
  refine hK3 _ _ ?_
  refine wp_ret ?_
  obtain rfl := Option.some.inj H
  replace hw := hw.up 1
  replace hw := hw.up 1
  refine ret1 (t := 2) (v := .slice Aa15 t13.length cc16) hs (by kernel_rfl) (by kernel_rfl) ?_
  exact ⟨Aa15, cc16, rfl, hw.only 2⟩

/-! rivet/rivetlaw05.shown: function 13 -/
noncomputable def rivetlaw05_shown.j1 : Option Bool := some false
noncomputable def rivetlaw05_shown.j4 (v45 : Bool) : Option Bool := some v45
noncomputable def rivetlaw05_shown.j3 (x11 : Smemory_Memory) : Option Bool := ((memory_Memory_Place x11 0 ([67305985] : List Int)).bind fun ⟨t29, t30⟩ => (((memory_Memory_Byte t30 1).bind fun ⟨t36, t37, t38⟩ => ((if t29 = 0 then (if t36 = 2 then rivetlaw05_shown.j4 (t37 == 0) else rivetlaw05_shown.j4 false) else rivetlaw05_shown.j4 false)))))
noncomputable def rivetlaw05_shown.j2 (x11 : Smemory_Memory) (v18 : Bool) : Option Bool := (if v18 = true then some false else rivetlaw05_shown.j3 x11)
noncomputable def rivetlaw05_shown : Option Bool := ((memory_New 1).bind fun ⟨t4, t5⟩ => ((match t4 with | none => rivetlaw05_shown.j1 | some x11 => rivetlaw05_shown.j2 x11 (t5 != 0))))
set_option maxRecDepth 100000 in
set_option maxHeartbeats 4000000 in
theorem rivetlaw05_shown.calls (r : Bool) (w0 : World) (H : rivetlaw05_shown = some r) :
    Calls Try.prog 13 #[] w0 fun e w' => e = .returned (.bool r) ∧ St [] w0 w' [] := by
  have hw : St [] w0 w0 [] := St.nil w0
  unfold rivetlaw05_shown at H
  refine go_fn Try.func13 rfl 34 Try.ntmps13 [] (by kernel_rfl) rfl ?_
  intro a hs
  refine go_seq_k fun K1 hK1 => ?_
  refine go_region ?_
  refine go_pvs 0 1 [] hs (L' := []) (by kernel_rfl) ?_ rfl
  clear hs; intro a hs
  refine go_end (by kernel_rfl) ?_
  refine hK1 _ _ ?_
  refine go_seq_k fun K2 hK2 => ?_
  refine go_region ?_
  obtain ⟨⟨t4, t5⟩, hx6, H⟩ := bind_some H
  refine go_call hs (op := (Op.call { callee := (Callee.value (Operand.func 15)), args := #[(Operand.const (Value.int IntKind.i64 1))], argTypes := #[3] })) (ty := 28) (dst := some 7) (g := none) (by kernel_rfl) (by kernel_rfl) (by kernel_rfl) (f := 15) (args := #[.int .i64 1]) (by kernel_rfl) (memory_New.calls 1 (t4, t5) _ hx6) ?_
  rintro e wd8 ⟨Aa7, rfl, hw9⟩
  refine ⟨_, rfl, ?_⟩
  replace hw := hw.call hw9
  intro a hs1
  replace hs : Slots a 34 [(7, .tuple #[.pointer Aa7, .int .i64 t5])] := hs1.keep [7] (by kernel_rfl)
  clear hs1
  rcases t4 with _ | x11
  · obtain ⟨hAg, hwg⟩ := St.oM_none hw
    clear hw; subst hAg; have hw := hwg; clear hwg
    refine go_pvs 1 6 [1, 2] hs (L' := [(1, .pointer none), (2, .int .i64 t5)]) (by kernel_rfl) ?_ rfl
    clear hs; intro a hs
    refine go_end (by kernel_rfl) ?_
    refine hK2 _ _ ?_
    refine go_seq_k fun K12 hK12 => ?_
    refine go_seq_k fun K13 hK13 => ?_
    have hJ1 : ∀ (a : Act) (w : World), Slots a 34 [(1, .pointer none), (15, .bool true)] → St [] w0 w [] → rivetlaw05_shown.j1 = some r → K13 a w := by
      intro a w hs hw H
      unfold rivetlaw05_shown.j1 at H
      refine hK13 _ _ ?_
      refine go_cond hs true (by kernel_rfl) (fun hc => ?_) (fun hc => ?_)
      · skip
        refine go_seq_k fun K14 hK14 => ?_
        refine go_region ?_
        refine go_pvs 0 1 [0] hs (L' := [(0, .bool false)]) (by kernel_rfl) ?_ rfl
        clear hs; intro a hs
        refine go_end (by kernel_rfl) ?_
        refine hK14 _ _ ?_
        refine wp_ret ?_
        refine th_ret ?_
        obtain rfl := Option.some.inj H
        refine ret1 (t := 0) (v := .bool false) hs (by kernel_rfl) (by kernel_rfl) ?_
        exact ⟨rfl, hw.only 0⟩
      · cases hc
    refine go_region ?_
    refine go_pvs 0 6 [1, 15] hs (L' := [(1, .pointer none), (15, .bool true)]) (by kernel_rfl) ?_ rfl
    clear hs; intro a hs
    refine go_end (by kernel_rfl) ?_
    replace hw := hw.only 0
    exact hJ1 _ _ (hs.keep [1, 15] (by kernel_rfl)) hw H
  · replace hw : St [] w0 _ [mSmemory_Memory Aa7 x11] := hw
    obtain ⟨g15, hAg, hwg⟩ := St.one hw
    clear hw; subst hAg; have hw := hwg; clear hwg
    refine go_pvs 1 6 [1, 2] hs (L' := [(1, .pointer (some (⟨g15, 0, none⟩ : Addr))), (2, .int .i64 t5)]) (by kernel_rfl) ?_ rfl
    clear hs; intro a hs
    refine go_end (by kernel_rfl) ?_
    refine hK2 _ _ ?_
    refine go_seq_k fun K16 hK16 => ?_
    have hJ3 : ∀ (a : Act) (w : World), Slots a 34 [(1, .pointer (some (⟨g15, 0, none⟩ : Addr)))] → St [] w0 w [own 68 eSmemory_Memory (some (⟨g15, 0, none⟩ : Addr)) 1 [x11]] → rivetlaw05_shown.j3 x11 = some r → K16 a w := by
      intro a w hs hw H
      unfold rivetlaw05_shown.j3 at H
      refine hK16 _ _ ?_
      refine go_seq_k fun K22 hK22 => ?_
      refine go_region ?_
      refine go_pvs 0 1 [1, 16] hs (L' := [(1, .pointer (some (⟨g15, 0, none⟩ : Addr))), (16, .pointer (some (⟨g15, 0, none⟩ : Addr)))]) (by kernel_rfl) ?_ rfl
      clear hs; intro a hs
      obtain ⟨Aa23, cc24, wd25, hx26, hw⟩ := n_lit (P := Try.prog) (L := [(1, .pointer (some (⟨g15, 0, none⟩ : Addr))), (16, .pointer (some (⟨g15, 0, none⟩ : Addr)))]) (t := 22) (ty := 22) (T := 23) (len := 1) (parts := #[(0, (Operand.const (Value.int IntKind.u32 67305985)))]) (z := .int .u32 0) (bytes := 4) (cells := #[.int .u32 67305985]) hw (eI .u32) ([67305985] : List Int) (by kernel_rfl) (by kernel_rfl) (by kernel_rfl) (by kernel_rfl) (by kernel_rfl) (by kernel_rfl) (by kernel_rfl)
      refine go_run hs (op := (Op.buildSlice 22 1 #[(0, (Operand.const (Value.int IntKind.u32 67305985)))])) (ty := 22) (dst := some 17) (g := none) (by kernel_rfl) (by kernel_rfl) (by kernel_rfl) hx26 [1, 16, 17] (L' := [(1, .pointer (some (⟨g15, 0, none⟩ : Addr))), (16, .pointer (some (⟨g15, 0, none⟩ : Addr))), (17, .slice Aa23 ([67305985] : List Int).length cc24)]) (by kernel_rfl) ?_
      clear hs; intro a hs
      replace hw := hw.up 1
      obtain ⟨ks28, hgks28, hstks28, hbkks28⟩ := hw.lend 1
      obtain ⟨⟨t29, t30⟩, hx31, H⟩ := bind_some H
      refine go_call hs (op := (Op.call { callee := (Callee.value (Operand.func 16)), args := #[(Operand.tmp 16), (Operand.const (Value.int IntKind.i64 0)), (Operand.tmp 17)], argTypes := #[26, 3, 22] })) (ty := 27) (dst := some 18) (g := none) (by kernel_rfl) (by kernel_rfl) (by kernel_rfl) (f := 16) (args := #[.pointer (some (⟨g15, 0, none⟩ : Addr)), .int .i64 0, .slice Aa23 ([67305985] : List Int).length cc24]) (by kernel_rfl) (memory_Memory_Place.calls ks28 (some (⟨g15, 0, none⟩ : Addr)) x11 0 Aa23 cc24 ([67305985] : List Int) (t29, t30) _ hgks28 (fun wz hkz => (Rd.of_own ((hstks28 _ hkz).up 0))) hx31) ?_
      rintro e wd32 ⟨rfl, hw33⟩
      refine ⟨_, rfl, ?_⟩
      replace hw := hbkks28 _ _ hw33
      replace hw : St [] w0 _ [own 68 eSmemory_Memory (some (⟨g15, 0, none⟩ : Addr)) 1 [t30], own 23 (eI .u32) Aa23 cc24 ([67305985] : List Int)] := hw
      intro a hs1
      replace hs : Slots a 34 [(1, .pointer (some (⟨g15, 0, none⟩ : Addr))), (18, .int .i64 t29)] := hs1.keep [1, 18] (by kernel_rfl)
      clear hs1
      refine go_pvs 3 4 [1, 3] hs (L' := [(1, .pointer (some (⟨g15, 0, none⟩ : Addr))), (3, .int .i64 t29)]) (by kernel_rfl) ?_ rfl
      clear hs; intro a hs
      refine go_end (by kernel_rfl) ?_
      refine hK22 _ _ ?_
      refine go_seq_k fun K34 hK34 => ?_
      refine go_region ?_
      refine go_pvs 0 1 [3, 20] hs (L' := [(3, .int .i64 t29), (20, .pointer (some (⟨g15, 0, none⟩ : Addr)))]) (by kernel_rfl) ?_ rfl
      clear hs; intro a hs
      obtain ⟨ks35, hgks35, hstks35, hbkks35⟩ := hw.lend 1
      obtain ⟨⟨t36, t37, t38⟩, hx39, H⟩ := bind_some H
      refine go_call hs (op := (Op.call { callee := (Callee.value (Operand.func 31)), args := #[(Operand.tmp 20), (Operand.const (Value.int IntKind.u32 1))], argTypes := #[26, 23] })) (ty := 60) (dst := some 21) (g := none) (by kernel_rfl) (by kernel_rfl) (by kernel_rfl) (f := 31) (args := #[.pointer (some (⟨g15, 0, none⟩ : Addr)), .int .u32 1]) (by kernel_rfl) (memory_Memory_Byte.calls ks35 (some (⟨g15, 0, none⟩ : Addr)) t30 1 (t36, t37, t38) _ hgks35 hx39) ?_
      rintro e wd40 ⟨rfl, hw41⟩
      refine ⟨_, rfl, ?_⟩
      replace hw := hbkks35 _ _ hw41
      replace hw : St [] w0 _ [own 68 eSmemory_Memory (some (⟨g15, 0, none⟩ : Addr)) 1 [t38], own 23 (eI .u32) Aa23 cc24 ([67305985] : List Int)] := hw
      intro a hs1
      replace hs : Slots a 34 [(3, .int .i64 t29), (21, .tuple #[.int .u8 t36, .int .i64 t37])] := hs1.keep [3, 21] (by kernel_rfl)
      clear hs1
      refine go_pvs 2 7 [3, 4, 5] hs (L' := [(3, .int .i64 t29), (4, .int .u8 t36), (5, .int .i64 t37)]) (by kernel_rfl) ?_ rfl
      clear hs; intro a hs
      refine go_end (by kernel_rfl) ?_
      refine hK34 _ _ ?_
      refine go_seq_k fun K42 hK42 => ?_
      have hJ4 : ∀ (v45 : Bool) (a : Act) (w : World), Slots a 34 [(0, .bool v45)] → St [] w0 w [own 68 eSmemory_Memory (some (⟨g15, 0, none⟩ : Addr)) 1 [t38], own 23 (eI .u32) Aa23 cc24 ([67305985] : List Int)] → rivetlaw05_shown.j4 v45 = some r → K42 a w := by
        intro v45 a w hs hw H
        unfold rivetlaw05_shown.j4 at H
        refine hK42 _ _ ?_
        refine wp_ret ?_
        obtain rfl := Option.some.inj H
        refine ret1 (t := 0) (v := .bool v45) hs (by kernel_rfl) (by kernel_rfl) ?_
        exact ⟨rfl, hw.only 0⟩
      refine go_region ?_
      refine go_pvs 0 3 [4, 5, 26] hs (L' := [(4, .int .u8 t36), (5, .int .i64 t37), (26, .bool (t29 == 0))]) (by kernel_rfl) ?_ rfl
      clear hs; intro a hs
      cases hb43 : (t29 == 0)
      · replace H := ite_f H (beq_eq_false_iff_ne.1 hb43)
        rw [hb43] at hs
        refine go_pvs 3 11 [0] hs (L' := [(0, .bool false)]) (by kernel_rfl) ?_ rfl
        clear hs; intro a hs
        refine go_end (by kernel_rfl) ?_
        replace hw := hw.up 1
        replace hw := hw.up 1
        replace hw := hw.only 2
        exact hJ4 false _ _ (hs.keep [0] (by kernel_rfl)) hw H
      · replace H := ite_t H (beq_iff_eq.1 hb43)
        rw [hb43] at hs
        refine go_pvs 3 7 [5, 30] hs (L' := [(5, .int .i64 t37), (30, .bool (t36 == 2))]) (by kernel_rfl) ?_ rfl
        clear hs; intro a hs
        cases hb44 : (t36 == 2)
        · replace H := ite_f H (beq_eq_false_iff_ne.1 hb44)
          rw [hb44] at hs
          refine go_pvs 7 11 [0] hs (L' := [(0, .bool false)]) (by kernel_rfl) ?_ rfl
          clear hs; intro a hs
          refine go_end (by kernel_rfl) ?_
          replace hw := hw.up 1
          replace hw := hw.up 1
          replace hw := hw.only 2
          exact hJ4 false _ _ (hs.keep [0] (by kernel_rfl)) hw H
        · replace H := ite_t H (beq_iff_eq.1 hb44)
          rw [hb44] at hs
          refine go_pvs 7 11 [0] hs (L' := [(0, .bool (t37 == 0))]) (by kernel_rfl) ?_ rfl
          clear hs; intro a hs
          refine go_end (by kernel_rfl) ?_
          replace hw := hw.up 1
          replace hw := hw.up 1
          replace hw := hw.only 2
          exact hJ4 (t37 == 0) _ _ (hs.keep [0] (by kernel_rfl)) hw H
    refine go_seq_k fun K17 hK17 => ?_
    have hJ2 : ∀ (v18 : Bool) (a : Act) (w : World), Slots a 34 [(1, .pointer (some (⟨g15, 0, none⟩ : Addr))), (15, .bool v18)] → St [] w0 w [own 68 eSmemory_Memory (some (⟨g15, 0, none⟩ : Addr)) 1 [x11]] → rivetlaw05_shown.j2 x11 v18 = some r → K17 a w := by
      intro v18 a w hs hw H
      unfold rivetlaw05_shown.j2 at H
      refine hK17 _ _ ?_
      refine go_cond hs v18 (by kernel_rfl) (fun hc => ?_) (fun hc => ?_)
      · replace H := ite_t H hc
        have hb19 := hc
        rw [hb19] at hs
        refine go_seq_k fun K20 hK20 => ?_
        refine go_region ?_
        refine go_pvs 0 1 [0] hs (L' := [(0, .bool false)]) (by kernel_rfl) ?_ rfl
        clear hs; intro a hs
        refine go_end (by kernel_rfl) ?_
        refine hK20 _ _ ?_
        refine wp_ret ?_
        refine th_ret ?_
        obtain rfl := Option.some.inj H
        refine ret1 (t := 0) (v := .bool false) hs (by kernel_rfl) (by kernel_rfl) ?_
        exact ⟨rfl, hw.only 0⟩
      · replace H := ite_f H (ff hc)
        have hb21 := hc
        rw [hb21] at hs
        refine wp_skip ?_
        replace hw := hw.only 1
        exact hJ3 _ _ (hs.keep [1] (by kernel_rfl)) hw H
    refine go_region ?_
    refine go_pvs 0 6 [1, 15] hs (L' := [(1, .pointer (some (⟨g15, 0, none⟩ : Addr))), (15, .bool (t5 != 0))]) (by kernel_rfl) ?_ rfl
    clear hs; intro a hs
    refine go_end (by kernel_rfl) ?_
    replace hw := hw.only 1
    exact hJ2 (t5 != 0) _ _ (hs.keep [1, 15] (by kernel_rfl)) hw H

/-! rivet/rivetlaw05.MemoryOwn: function 3 -/
noncomputable def rivetlaw05_MemoryOwn.j1 : Option Bool := some false
noncomputable def rivetlaw05_MemoryOwn.b72 (a1 : Int) (l73 : List Int) (v74 : Int) : Option ((List Int) × Int ⊕ (List Int)) := (if v74 < (l73.length : Int) then (if 0 ≤ v74 ∧ v74 < (l73.length : Int) then some (.inl (l73.set (v74 : Int).toNat a1, w64 (v74 + 1))) else none) else some (.inr l73))
noncomputable def rivetlaw05_MemoryOwn.b87 (a1 : Int) (l88 : List Int) (v89 : Int) : Option ((List Int) × Int ⊕ (List Int)) := (if v89 < (l88.length : Int) then (if 0 ≤ v89 ∧ v89 < (l88.length : Int) then some (.inl (l88.set (v89 : Int).toNat a1, w64 (v89 + 1))) else none) else some (.inr l88))
noncomputable def rivetlaw05_MemoryOwn.j6 (v187 : Smemory_Memory) (v188 : Bool) : Option Bool := some v188
noncomputable def rivetlaw05_MemoryOwn.j5 (t63 : Smemory_Memory) (l0 : List Int) (l99 : List Int) : Option Bool := ((memory_Memory_Words t63).bind fun ⟨t102, t103⟩ => ((if 0 ≤ (mnn (l0.length : Int) 12) ∧ (mnn (l0.length : Int) 12) ≤ (l0.length : Int) then ((rivetref05_Same t102 (l0.take (mnn (l0.length : Int) 12 : Int).toNat)).bind fun t120 => ((if t120 = true then (if 0 ≤ (mnn (l0.length : Int) 12) ∧ (mnn (l0.length : Int) 12) ≤ (l0.length : Int) then ((memory_Memory_Place t103 1 (l0.take (mnn (l0.length : Int) 12 : Int).toNat)).bind fun ⟨t158, t159⟩ => ((if t158 = 11 then rivetlaw05_MemoryOwn.j6 t159 true else (if 0 ≤ (mnn (l0.length : Int) 12) ∧ (mnn (l0.length : Int) 12) ≤ (l0.length : Int) then (if ((l0.take (mnn (l0.length : Int) 12 : Int).toNat).length : Int) = 0 then ((memory_Memory_Place t159 1 ([] : List Int)).bind fun ⟨t175, t176⟩ => ((if t175 = 11 then ((memory_Memory_Place t176 0 ([] : List Int)).bind fun ⟨t182, t183⟩ => (rivetlaw05_MemoryOwn.j6 t183 (t182 == 0))) else rivetlaw05_MemoryOwn.j6 t176 false))) else rivetlaw05_MemoryOwn.j6 t159 false) else none)))) else none) else (if 0 ≤ (mnn (l0.length : Int) 12) ∧ (mnn (l0.length : Int) 12) ≤ (l0.length : Int) then (if ((l0.take (mnn (l0.length : Int) 12 : Int).toNat).length : Int) = 0 then ((memory_Memory_Place t103 1 ([] : List Int)).bind fun ⟨t136, t137⟩ => ((if t136 = 11 then ((memory_Memory_Place t137 0 ([] : List Int)).bind fun ⟨t143, t144⟩ => (rivetlaw05_MemoryOwn.j6 t144 (t143 == 0))) else rivetlaw05_MemoryOwn.j6 t137 false))) else rivetlaw05_MemoryOwn.j6 t103 false) else none)))) else none)))
noncomputable def rivetlaw05_MemoryOwn.j4 (a1 : Int) (t62 : List Int) (t63 : Smemory_Memory) (l0 : List Int) (l84 : List Int) : Option Bool := ((loopO (fun (σ : (List Int) × Int) => rivetlaw05_MemoryOwn.b87 a1 σ.1 σ.2) (t62, 0)).bind fun e => rivetlaw05_MemoryOwn.j5 t63 l0 e)
noncomputable def rivetlaw05_MemoryOwn.j3 (a1 : Int) (l0 : List Int) (v59 : Smemory_Memory) : Option Bool := ((memory_Memory_Words v59).bind fun ⟨t62, t63⟩ => (((loopO (fun (σ : (List Int) × Int) => rivetlaw05_MemoryOwn.b72 a1 σ.1 σ.2) (([] : List Int) ++ (l0.take (mnn (l0.length : Int) 12 : Int).toNat), 0)).bind fun e => rivetlaw05_MemoryOwn.j4 a1 t62 t63 l0 e)))
noncomputable def rivetlaw05_MemoryOwn.j2 (a1 : Int) (l0 : List Int) (v54 : Smemory_Memory) (v55 : Bool) : Option Bool := (if v55 = true then some false else rivetlaw05_MemoryOwn.j3 a1 l0 v54)
noncomputable def rivetlaw05_MemoryOwn (l0 : List Int) (a1 : Int) : Option Bool := ((rivetlaw05_shown).bind fun t4 => ((if 0 ≤ (mnn (l0.length : Int) 12) ∧ (mnn (l0.length : Int) 12) ≤ (l0.length : Int) then (if ([] : List Int).length + (l0.take (mnn (l0.length : Int) 12 : Int).toNat).length ≤ 35184372088832 then ((memory_New ((([] : List Int) ++ (l0.take (mnn (l0.length : Int) 12 : Int).toNat)).length : Int)).bind fun ⟨t31, t32⟩ => ((match t31 with | none => (if t4 = true then rivetlaw05_MemoryOwn.j1 else rivetlaw05_MemoryOwn.j1) | some x38 => (if t4 = true then (if t32 = 0 then ((memory_Memory_Place x38 0 (([] : List Int) ++ (l0.take (mnn (l0.length : Int) 12 : Int).toNat))).bind fun ⟨t49, t50⟩ => (rivetlaw05_MemoryOwn.j2 a1 l0 t50 (t49 != 0))) else rivetlaw05_MemoryOwn.j2 a1 l0 x38 true) else rivetlaw05_MemoryOwn.j2 a1 l0 x38 true)))) else none) else none)))
set_option maxRecDepth 100000 in
set_option maxHeartbeats 4000000 in
theorem rivetlaw05_MemoryOwn.calls (A0 : Option Addr) (c0 : Nat) (l0 : List Int) (a1 : Int) (r : Bool) (w0 : World) (hr0 : Rd w0 (eI .u32) A0 c0 l0) (H : rivetlaw05_MemoryOwn l0 a1 = some r) :
    Calls Try.prog 3 #[.slice A0 l0.length c0, .int .u32 a1] w0 fun e w' => e = .returned (.bool r) ∧ St [] w0 w' [] := by
  have hw : St [] w0 w0 [] := St.nil w0
  unfold rivetlaw05_MemoryOwn at H
  refine go_fn Try.func3 rfl 89 Try.ntmps3 [(0, .slice A0 l0.length c0), (1, .int .u32 a1)] (by kernel_rfl) rfl ?_
  intro a hs
  refine go_seq_k fun K1 hK1 => ?_
  refine go_region ?_
  refine go_pvs 0 1 [0, 1] hs (L' := [(0, .slice A0 l0.length c0), (1, .int .u32 a1)]) (by kernel_rfl) ?_ rfl
  clear hs; intro a hs
  refine go_end (by kernel_rfl) ?_
  refine hK1 _ _ ?_
  refine go_seq_k fun K2 hK2 => ?_
  refine go_region ?_
  obtain ⟨t4, hx5, H⟩ := bind_some H
  refine go_call hs (op := (Op.call { callee := (Callee.value (Operand.func 13)), args := #[], argTypes := #[] })) (ty := 4) (dst := some 12) (g := none) (by kernel_rfl) (by kernel_rfl) (by kernel_rfl) (f := 13) (args := #[]) (by kernel_rfl) (rivetlaw05_shown.calls t4 _ hx5) ?_
  rintro e wd6 ⟨rfl, hw7⟩
  refine ⟨_, rfl, ?_⟩
  replace hw := hw.call hw7
  intro a hs1
  replace hs : Slots a 89 [(0, .slice A0 l0.length c0), (1, .int .u32 a1), (12, .bool t4)] := hs1.keep [0, 1, 12] (by kernel_rfl)
  clear hs1
  refine go_pvs 1 2 [0, 1, 5] hs (L' := [(0, .slice A0 l0.length c0), (1, .int .u32 a1), (5, .bool t4)]) (by kernel_rfl) ?_ rfl
  clear hs; intro a hs
  refine go_end (by kernel_rfl) ?_
  refine hK2 _ _ ?_
  refine go_seq_k fun K8 hK8 => ?_
  refine go_region ?_
  obtain ⟨Aa9, cc10, wd11, hx12, hw⟩ := n_lit0 (P := Try.prog) (L := [(0, .slice A0 l0.length c0), (1, .int .u32 a1), (5, .bool t4)]) (t := 22) (ty := 22) (T := 23) hw (eI .u32) (by kernel_rfl) (by kernel_rfl)
  refine go_run hs (op := (Op.buildSlice 22 0 #[])) (ty := 22) (dst := some 13) (g := none) (by kernel_rfl) (by kernel_rfl) (by kernel_rfl) hx12 [0, 1, 5, 13] (L' := [(0, .slice A0 l0.length c0), (1, .int .u32 a1), (5, .bool t4), (13, .slice Aa9 ([] : List Int).length cc10)]) (by kernel_rfl) ?_
  clear hs; intro a hs
  refine go_pvs 1 2 [0, 1, 5, 13, 14] hs (L' := [(0, .slice A0 l0.length c0), (1, .int .u32 a1), (5, .bool t4), (13, .slice Aa9 ([] : List Int).length cc10), (14, .slice A0 l0.length c0)]) (by kernel_rfl) ?_ rfl
  clear hs; intro a hs
  refine go_inline_k hs (op := (Op.call { callee := (Callee.value (Operand.func 14)), args := #[(Operand.tmp 14)], argTypes := #[22] })) (ty := 22) (dst := some 15) (g := none) (by kernel_rfl) (by kernel_rfl) (by kernel_rfl) (f := 14) (args := #[.slice A0 l0.length c0]) (by kernel_rfl) (fun KR14 hKR14 => ?_)
  refine go_fn Try.func14 rfl 8 Try.ntmps14 [(0, .slice A0 l0.length c0)] (by kernel_rfl) rfl ?_
  clear hs; intro a hs
  refine go_seq_k fun K15 hK15 => ?_
  refine go_region ?_
  refine go_pvs 0 1 [0] hs (L' := [(0, .slice A0 l0.length c0)]) (by kernel_rfl) ?_ rfl
  clear hs; intro a hs
  refine go_end (by kernel_rfl) ?_
  refine hK15 _ _ ?_
  refine go_seq_k fun K16 hK16 => ?_
  refine go_region ?_
  refine go_pvs 0 4 [3, 6] hs (L' := [(3, .slice A0 l0.length c0), (6, .int .i64 (mnn (l0.length : Int) 12))]) (by kernel_rfl) ?_ rfl
  clear hs; intro a hs
  obtain ⟨hp17, H⟩ := ite_only H
  obtain ⟨Aa18, cc19, hx20, hc21⟩ := c_hi (P := Try.prog) (L := [(3, .slice A0 l0.length c0), (6, .int .i64 (mnn (l0.length : Int) 12))]) (ty := 22) (E := (eI .u32)) (T := 23) (t := 22) (x := (Operand.tmp 3)) (y := (Operand.tmp 6)) (k := .i64) (by kernel_rfl) (by kernel_rfl) (hr0.old hw) (by kernel_rfl) (by kernel_rfl) hp17.1 hp17.2
  refine go_run hs (op := (Op.slice 22 (Operand.tmp 3) none (some (Operand.tmp 6)) none)) (ty := 22) (dst := some 7) (g := none) (by kernel_rfl) (by kernel_rfl) (by kernel_rfl) hx20 [7] (L' := [(7, .slice Aa18 (l0.take (mnn (l0.length : Int) 12 : Int).toNat).length cc19)]) (by kernel_rfl) ?_
  clear hs; intro a hs
  refine go_pvs 5 6 [2] hs (L' := [(2, .slice Aa18 (l0.take (mnn (l0.length : Int) 12 : Int).toNat).length cc19)]) (by kernel_rfl) ?_ rfl
  clear hs; intro a hs
  refine go_end (by kernel_rfl) ?_
  refine hK16 _ _ ?_
  refine wp_ret ?_
  refine ret1 (t := 2) (v := .slice Aa18 (l0.take (mnn (l0.length : Int) 12 : Int).toNat).length cc19) hs (by kernel_rfl) (by kernel_rfl) ?_
  refine ⟨_, rfl, ?_⟩
  refine hKR14 _ _ ?_
  intro a hs1
  have hs : Slots a _ [(0, .slice A0 l0.length c0), (1, .int .u32 a1), (5, .bool t4), (13, .slice Aa9 ([] : List Int).length cc10), (15, .slice Aa18 (l0.take (mnn (l0.length : Int) 12 : Int).toNat).length cc19)] := hs1.keep [0, 1, 5, 13, 15] (by kernel_rfl)
  clear hs1
  obtain ⟨hp23, H⟩ := ite_only H
  have hsrc28 : Src Try.prog (eI .u32).sz 22 (.slice Aa18 (l0.take (mnn (l0.length : Int) 12 : Int).toNat).length cc19) (l0.take (mnn (l0.length : Int) 12 : Int).toNat).length ((l0.take (mnn (l0.length : Int) 12 : Int).toNat).flatMap (eI .u32).enc) _ := (Src.of_rd (E := (eI .u32)) (e' := 23) (by kernel_rfl) (hc21 _ (hr0.old hw)))
  obtain ⟨Aa24, cc25, wd26, hx27, hw⟩ := x_append (P := Try.prog) (L := [(0, .slice A0 l0.length c0), (1, .int .u32 a1), (5, .bool t4), (13, .slice Aa9 ([] : List Int).length cc10), (15, .slice Aa18 (l0.take (mnn (l0.length : Int) 12 : Int).toNat).length cc19)]) (t := 22) (tx := 22) (ty := 22) (x := (Operand.tmp 13)) (y := (Operand.tmp 15)) (z := .int .u32 0) (bytes := 4) (l2 := l0.take (mnn (l0.length : Int) 12 : Int).toNat) hw (by kernel_rfl) (by kernel_rfl) (by kernel_rfl) (by kernel_rfl) (by kernel_rfl) hsrc28 (by omega) (by omega)
  refine go_run hs (op := (Op.call { callee := (Callee.builtin Builtin.append), args := #[(Operand.tmp 13), (Operand.tmp 15)], argTypes := #[22, 22] })) (ty := 22) (dst := some 16) (g := none) (by kernel_rfl) (by kernel_rfl) (by kernel_rfl) hx27 [0, 1, 5, 16] (L' := [(0, .slice A0 l0.length c0), (1, .int .u32 a1), (5, .bool t4), (16, .slice Aa24 (([] : List Int) ++ (l0.take (mnn (l0.length : Int) 12 : Int).toNat)).length cc25)]) (by kernel_rfl) ?_
  clear hs; intro a hs
  refine go_pvs 4 5 [0, 1, 5, 6] hs (L' := [(0, .slice A0 l0.length c0), (1, .int .u32 a1), (5, .bool t4), (6, .slice Aa24 (([] : List Int) ++ (l0.take (mnn (l0.length : Int) 12 : Int).toNat)).length cc25)]) (by kernel_rfl) ?_ rfl
  clear hs; intro a hs
  refine go_end (by kernel_rfl) ?_
  refine hK8 _ _ ?_
  refine go_seq_k fun K29 hK29 => ?_
  refine go_region ?_
  refine go_pvs 0 2 [0, 1, 5, 6, 19] hs (L' := [(0, .slice A0 l0.length c0), (1, .int .u32 a1), (5, .bool t4), (6, .slice Aa24 (([] : List Int) ++ (l0.take (mnn (l0.length : Int) 12 : Int).toNat)).length cc25), (19, .int .i64 ((([] : List Int) ++ (l0.take (mnn (l0.length : Int) 12 : Int).toNat)).length : Int))]) (by kernel_rfl) ?_ rfl
  clear hs; intro a hs
  obtain ⟨⟨t31, t32⟩, hx33, H⟩ := bind_some H
  refine go_call hs (op := (Op.call { callee := (Callee.value (Operand.func 15)), args := #[(Operand.tmp 19)], argTypes := #[3] })) (ty := 28) (dst := some 20) (g := none) (by kernel_rfl) (by kernel_rfl) (by kernel_rfl) (f := 15) (args := #[.int .i64 ((([] : List Int) ++ (l0.take (mnn (l0.length : Int) 12 : Int).toNat)).length : Int)]) (by kernel_rfl) (memory_New.calls ((([] : List Int) ++ (l0.take (mnn (l0.length : Int) 12 : Int).toNat)).length : Int) (t31, t32) _ hx33) ?_
  rintro e wd35 ⟨Aa34, rfl, hw36⟩
  refine ⟨_, rfl, ?_⟩
  replace hw := hw.call hw36
  intro a hs1
  replace hs : Slots a 89 [(0, .slice A0 l0.length c0), (1, .int .u32 a1), (5, .bool t4), (6, .slice Aa24 (([] : List Int) ++ (l0.take (mnn (l0.length : Int) 12 : Int).toNat)).length cc25), (20, .tuple #[.pointer Aa34, .int .i64 t32])] := hs1.keep [0, 1, 5, 6, 20] (by kernel_rfl)
  clear hs1
  rcases t31 with _ | x38
  · obtain ⟨hAg, hwg⟩ := St.oM_none hw
    clear hw; subst hAg; have hw := hwg; clear hwg
    refine go_pvs 3 8 [0, 1, 5, 6, 7, 8] hs (L' := [(0, .slice A0 l0.length c0), (1, .int .u32 a1), (5, .bool t4), (6, .slice Aa24 (([] : List Int) ++ (l0.take (mnn (l0.length : Int) 12 : Int).toNat)).length cc25), (7, .pointer none), (8, .int .i64 t32)]) (by kernel_rfl) ?_ rfl
    clear hs; intro a hs
    refine go_end (by kernel_rfl) ?_
    refine hK29 _ _ ?_
    refine go_seq_k fun K39 hK39 => ?_
    refine go_seq_k fun K40 hK40 => ?_
    have hJ1 : ∀ (a : Act) (w : World), Slots a 89 [(0, .slice A0 l0.length c0), (1, .int .u32 a1), (6, .slice Aa24 (([] : List Int) ++ (l0.take (mnn (l0.length : Int) 12 : Int).toNat)).length cc25), (7, .pointer none), (38, .bool true)] → St [] w0 w [own 23 (eI .u32) Aa24 cc25 (([] : List Int) ++ (l0.take (mnn (l0.length : Int) 12 : Int).toNat))] → rivetlaw05_MemoryOwn.j1 = some r → K40 a w := by
      intro a w hs hw H
      unfold rivetlaw05_MemoryOwn.j1 at H
      refine hK40 _ _ ?_
      refine go_cond hs true (by kernel_rfl) (fun hc => ?_) (fun hc => ?_)
      · skip
        refine go_seq_k fun K42 hK42 => ?_
        refine go_region ?_
        refine go_pvs 0 1 [4] hs (L' := [(4, .bool false)]) (by kernel_rfl) ?_ rfl
        clear hs; intro a hs
        refine go_end (by kernel_rfl) ?_
        refine hK42 _ _ ?_
        refine wp_ret ?_
        refine th_ret ?_
        obtain rfl := Option.some.inj H
        refine ret1 (t := 4) (v := .bool false) hs (by kernel_rfl) (by kernel_rfl) ?_
        exact ⟨rfl, hw.only 0⟩
      · cases hc
    refine go_region ?_
    refine go_pvs 0 3 [0, 1, 6, 7, 8, 25] hs (L' := [(0, .slice A0 l0.length c0), (1, .int .u32 a1), (6, .slice Aa24 (([] : List Int) ++ (l0.take (mnn (l0.length : Int) 12 : Int).toNat)).length cc25), (7, .pointer none), (8, .int .i64 t32), (25, .bool (!t4))]) (by kernel_rfl) ?_ rfl
    clear hs; intro a hs
    cases hb41 : (!t4)
    · replace H := ite_t H (nf hb41)
      rw [hb41] at hs
      refine go_pvs 3 16 [0, 1, 6, 7, 38] hs (L' := [(0, .slice A0 l0.length c0), (1, .int .u32 a1), (6, .slice Aa24 (([] : List Int) ++ (l0.take (mnn (l0.length : Int) 12 : Int).toNat)).length cc25), (7, .pointer none), (38, .bool true)]) (by kernel_rfl) ?_ rfl
      clear hs; intro a hs
      refine go_end (by kernel_rfl) ?_
      replace hw := hw.only 1
      exact hJ1 _ _ (hs.keep [0, 1, 6, 7, 38] (by kernel_rfl)) hw H
    · replace H := ite_f H (ff (nt hb41))
      rw [hb41] at hs
      refine go_pvs 3 16 [0, 1, 6, 7, 38] hs (L' := [(0, .slice A0 l0.length c0), (1, .int .u32 a1), (6, .slice Aa24 (([] : List Int) ++ (l0.take (mnn (l0.length : Int) 12 : Int).toNat)).length cc25), (7, .pointer none), (38, .bool true)]) (by kernel_rfl) ?_ rfl
      clear hs; intro a hs
      refine go_end (by kernel_rfl) ?_
      replace hw := hw.only 1
      exact hJ1 _ _ (hs.keep [0, 1, 6, 7, 38] (by kernel_rfl)) hw H
  · replace hw : St [] w0 _ [mSmemory_Memory Aa34 x38, own 23 (eI .u32) Aa24 cc25 (([] : List Int) ++ (l0.take (mnn (l0.length : Int) 12 : Int).toNat))] := hw
    obtain ⟨g43, hAg, hwg⟩ := St.one hw
    clear hw; subst hAg; have hw := hwg; clear hwg
    refine go_pvs 3 8 [0, 1, 5, 6, 7, 8] hs (L' := [(0, .slice A0 l0.length c0), (1, .int .u32 a1), (5, .bool t4), (6, .slice Aa24 (([] : List Int) ++ (l0.take (mnn (l0.length : Int) 12 : Int).toNat)).length cc25), (7, .pointer (some (⟨g43, 0, none⟩ : Addr))), (8, .int .i64 t32)]) (by kernel_rfl) ?_ rfl
    clear hs; intro a hs
    refine go_end (by kernel_rfl) ?_
    refine hK29 _ _ ?_
    refine go_seq_k fun K44 hK44 => ?_
    have hJ3 : ∀ (v59 : Smemory_Memory) (a : Act) (w : World), Slots a 89 [(0, .slice A0 l0.length c0), (1, .int .u32 a1), (6, .slice Aa24 (([] : List Int) ++ (l0.take (mnn (l0.length : Int) 12 : Int).toNat)).length cc25), (7, .pointer (some (⟨g43, 0, none⟩ : Addr)))] → St [] w0 w [own 68 eSmemory_Memory (some (⟨g43, 0, none⟩ : Addr)) 1 [v59], own 23 (eI .u32) Aa24 cc25 (([] : List Int) ++ (l0.take (mnn (l0.length : Int) 12 : Int).toNat))] → rivetlaw05_MemoryOwn.j3 a1 l0 v59 = some r → K44 a w := by
      intro v59 a w hs hw H
      unfold rivetlaw05_MemoryOwn.j3 at H
      refine hK44 _ _ ?_
      refine go_seq_k fun K60 hK60 => ?_
      refine go_region ?_
      refine go_pvs 0 1 [0, 1, 6, 7, 39] hs (L' := [(0, .slice A0 l0.length c0), (1, .int .u32 a1), (6, .slice Aa24 (([] : List Int) ++ (l0.take (mnn (l0.length : Int) 12 : Int).toNat)).length cc25), (7, .pointer (some (⟨g43, 0, none⟩ : Addr))), (39, .pointer (some (⟨g43, 0, none⟩ : Addr)))]) (by kernel_rfl) ?_ rfl
      clear hs; intro a hs
      obtain ⟨ks61, hgks61, hstks61, hbkks61⟩ := hw.lend 1
      obtain ⟨⟨t62, t63⟩, hx64, H⟩ := bind_some H
      refine go_call hs (op := (Op.call { callee := (Callee.value (Operand.func 17)), args := #[(Operand.tmp 39)], argTypes := #[26] })) (ty := 22) (dst := some 40) (g := none) (by kernel_rfl) (by kernel_rfl) (by kernel_rfl) (f := 17) (args := #[.pointer (some (⟨g43, 0, none⟩ : Addr))]) (by kernel_rfl) (memory_Memory_Words.calls ks61 (some (⟨g43, 0, none⟩ : Addr)) v59 (t62, t63) _ hgks61 hx64) ?_
      rintro e wd67 ⟨Aa65, cc66, rfl, hw68⟩
      refine ⟨_, rfl, ?_⟩
      replace hw := hbkks61 _ _ hw68
      replace hw := hw.up 1
      replace hw : St [] w0 _ [own 68 eSmemory_Memory (some (⟨g43, 0, none⟩ : Addr)) 1 [t63], own 23 (eI .u32) Aa65 cc66 t62, own 23 (eI .u32) Aa24 cc25 (([] : List Int) ++ (l0.take (mnn (l0.length : Int) 12 : Int).toNat))] := hw
      intro a hs1
      replace hs : Slots a 89 [(0, .slice A0 l0.length c0), (1, .int .u32 a1), (6, .slice Aa24 (([] : List Int) ++ (l0.take (mnn (l0.length : Int) 12 : Int).toNat)).length cc25), (7, .pointer (some (⟨g43, 0, none⟩ : Addr))), (40, .slice Aa65 t62.length cc66)] := hs1.keep [0, 1, 6, 7, 40] (by kernel_rfl)
      clear hs1
      refine go_pvs 2 3 [0, 1, 6, 7, 9] hs (L' := [(0, .slice A0 l0.length c0), (1, .int .u32 a1), (6, .slice Aa24 (([] : List Int) ++ (l0.take (mnn (l0.length : Int) 12 : Int).toNat)).length cc25), (7, .pointer (some (⟨g43, 0, none⟩ : Addr))), (9, .slice Aa65 t62.length cc66)]) (by kernel_rfl) ?_ rfl
      clear hs; intro a hs
      refine go_end (by kernel_rfl) ?_
      refine hK60 _ _ ?_
      refine go_seq_k fun K70 hK70 => ?_
      refine go_seq_k fun K71 hK71 => ?_
      refine go_region ?_
      refine go_pvs 0 1 [0, 1, 6, 7, 9, 10] hs (L' := [(0, .slice A0 l0.length c0), (1, .int .u32 a1), (6, .slice Aa24 (([] : List Int) ++ (l0.take (mnn (l0.length : Int) 12 : Int).toNat)).length cc25), (7, .pointer (some (⟨g43, 0, none⟩ : Addr))), (9, .slice Aa65 t62.length cc66), (10, .int .i64 0)]) (by kernel_rfl) ?_ rfl
      clear hs; intro a hs
      refine go_end (by kernel_rfl) ?_
      refine hK71 _ _ ?_
      refine wp_block ?_
      obtain ⟨e72, hl72, HX72⟩ := bind_some H
      have hJ4 : ∀ (l84 : List Int) (a : Act) (w : World), Slots a 89 [(0, .slice A0 l0.length c0), (1, .int .u32 a1), (7, .pointer (some (⟨g43, 0, none⟩ : Addr))), (9, .slice Aa65 t62.length cc66)] → St [] w0 w [own 68 eSmemory_Memory (some (⟨g43, 0, none⟩ : Addr)) 1 [t63], own 23 (eI .u32) Aa65 cc66 t62, own 23 (eI .u32) Aa24 cc25 l84] → rivetlaw05_MemoryOwn.j4 a1 t62 t63 l0 l84 = some r → K70 a w := by
        intro l84 a w hs hw H
        unfold rivetlaw05_MemoryOwn.j4 at H
        refine hK70 _ _ ?_
        refine go_seq_k fun K85 hK85 => ?_
        refine go_seq_k fun K86 hK86 => ?_
        refine go_region ?_
        refine go_pvs 0 1 [0, 1, 7, 9, 11] hs (L' := [(0, .slice A0 l0.length c0), (1, .int .u32 a1), (7, .pointer (some (⟨g43, 0, none⟩ : Addr))), (9, .slice Aa65 t62.length cc66), (11, .int .i64 0)]) (by kernel_rfl) ?_ rfl
        clear hs; intro a hs
        refine go_end (by kernel_rfl) ?_
        refine hK86 _ _ ?_
        refine wp_block ?_
        obtain ⟨e87, hl87, HX87⟩ := bind_some H
        have hJ5 : ∀ (l99 : List Int) (a : Act) (w : World), Slots a 89 [(0, .slice A0 l0.length c0), (7, .pointer (some (⟨g43, 0, none⟩ : Addr)))] → St [] w0 w [own 68 eSmemory_Memory (some (⟨g43, 0, none⟩ : Addr)) 1 [t63], own 23 (eI .u32) Aa65 cc66 l99, own 23 (eI .u32) Aa24 cc25 l84] → rivetlaw05_MemoryOwn.j5 t63 l0 l99 = some r → K85 a w := by
          intro l99 a w hs hw H
          unfold rivetlaw05_MemoryOwn.j5 at H
          refine hK85 _ _ ?_
          refine go_seq_k fun K100 hK100 => ?_
          have hJ6 : ∀ (v187 : Smemory_Memory) (v188 : Bool) (a : Act) (w : World), Slots a 89 [(4, .bool v188)] → St [] w0 w [own 68 eSmemory_Memory (some (⟨g43, 0, none⟩ : Addr)) 1 [v187], own 23 (eI .u32) Aa65 cc66 l99, own 23 (eI .u32) Aa24 cc25 l84] → rivetlaw05_MemoryOwn.j6 v187 v188 = some r → K100 a w := by
            intro v187 v188 a w hs hw H
            unfold rivetlaw05_MemoryOwn.j6 at H
            refine hK100 _ _ ?_
            refine wp_ret ?_
            obtain rfl := Option.some.inj H
            refine ret1 (t := 4) (v := .bool v188) hs (by kernel_rfl) (by kernel_rfl) ?_
            exact ⟨rfl, hw.only 0⟩
          refine go_region ?_
          refine go_pvs 0 1 [0, 7, 61] hs (L' := [(0, .slice A0 l0.length c0), (7, .pointer (some (⟨g43, 0, none⟩ : Addr))), (61, .pointer (some (⟨g43, 0, none⟩ : Addr)))]) (by kernel_rfl) ?_ rfl
          clear hs; intro a hs
          obtain ⟨ks101, hgks101, hstks101, hbkks101⟩ := hw.lend 1
          obtain ⟨⟨t102, t103⟩, hx104, H⟩ := bind_some H
          refine go_call hs (op := (Op.call { callee := (Callee.value (Operand.func 17)), args := #[(Operand.tmp 61)], argTypes := #[26] })) (ty := 22) (dst := some 62) (g := none) (by kernel_rfl) (by kernel_rfl) (by kernel_rfl) (f := 17) (args := #[.pointer (some (⟨g43, 0, none⟩ : Addr))]) (by kernel_rfl) (memory_Memory_Words.calls ks101 (some (⟨g43, 0, none⟩ : Addr)) t63 (t102, t103) _ hgks101 hx104) ?_
          rintro e wd107 ⟨Aa105, cc106, rfl, hw108⟩
          refine ⟨_, rfl, ?_⟩
          replace hw := hbkks101 _ _ hw108
          replace hw := hw.up 1
          replace hw : St [] w0 _ [own 68 eSmemory_Memory (some (⟨g43, 0, none⟩ : Addr)) 1 [t103], own 23 (eI .u32) Aa105 cc106 t102, own 23 (eI .u32) Aa65 cc66 l99, own 23 (eI .u32) Aa24 cc25 l84] := hw
          intro a hs1
          replace hs : Slots a 89 [(0, .slice A0 l0.length c0), (7, .pointer (some (⟨g43, 0, none⟩ : Addr))), (62, .slice Aa105 t102.length cc106)] := hs1.keep [0, 7, 62] (by kernel_rfl)
          clear hs1
          refine go_pvs 2 3 [0, 7, 62, 63] hs (L' := [(0, .slice A0 l0.length c0), (7, .pointer (some (⟨g43, 0, none⟩ : Addr))), (62, .slice Aa105 t102.length cc106), (63, .slice A0 l0.length c0)]) (by kernel_rfl) ?_ rfl
          clear hs; intro a hs
          refine go_inline_k hs (op := (Op.call { callee := (Callee.value (Operand.func 14)), args := #[(Operand.tmp 63)], argTypes := #[22] })) (ty := 22) (dst := some 64) (g := none) (by kernel_rfl) (by kernel_rfl) (by kernel_rfl) (f := 14) (args := #[.slice A0 l0.length c0]) (by kernel_rfl) (fun KR110 hKR110 => ?_)
          refine go_fn Try.func14 rfl 8 Try.ntmps14 [(0, .slice A0 l0.length c0)] (by kernel_rfl) rfl ?_
          clear hs; intro a hs
          refine go_seq_k fun K111 hK111 => ?_
          refine go_region ?_
          refine go_pvs 0 1 [0] hs (L' := [(0, .slice A0 l0.length c0)]) (by kernel_rfl) ?_ rfl
          clear hs; intro a hs
          refine go_end (by kernel_rfl) ?_
          refine hK111 _ _ ?_
          refine go_seq_k fun K112 hK112 => ?_
          refine go_region ?_
          refine go_pvs 0 4 [3, 6] hs (L' := [(3, .slice A0 l0.length c0), (6, .int .i64 (mnn (l0.length : Int) 12))]) (by kernel_rfl) ?_ rfl
          clear hs; intro a hs
          obtain ⟨hp113, H⟩ := ite_only H
          obtain ⟨Aa114, cc115, hx116, hc117⟩ := c_hi (P := Try.prog) (L := [(3, .slice A0 l0.length c0), (6, .int .i64 (mnn (l0.length : Int) 12))]) (ty := 22) (E := (eI .u32)) (T := 23) (t := 22) (x := (Operand.tmp 3)) (y := (Operand.tmp 6)) (k := .i64) (by kernel_rfl) (by kernel_rfl) (hr0.old hw) (by kernel_rfl) (by kernel_rfl) hp113.1 hp113.2
          refine go_run hs (op := (Op.slice 22 (Operand.tmp 3) none (some (Operand.tmp 6)) none)) (ty := 22) (dst := some 7) (g := none) (by kernel_rfl) (by kernel_rfl) (by kernel_rfl) hx116 [7] (L' := [(7, .slice Aa114 (l0.take (mnn (l0.length : Int) 12 : Int).toNat).length cc115)]) (by kernel_rfl) ?_
          clear hs; intro a hs
          refine go_pvs 5 6 [2] hs (L' := [(2, .slice Aa114 (l0.take (mnn (l0.length : Int) 12 : Int).toNat).length cc115)]) (by kernel_rfl) ?_ rfl
          clear hs; intro a hs
          refine go_end (by kernel_rfl) ?_
          refine hK112 _ _ ?_
          refine wp_ret ?_
          refine ret1 (t := 2) (v := .slice Aa114 (l0.take (mnn (l0.length : Int) 12 : Int).toNat).length cc115) hs (by kernel_rfl) (by kernel_rfl) ?_
          refine ⟨_, rfl, ?_⟩
          refine hKR110 _ _ ?_
          intro a hs1
          have hs : Slots a _ [(0, .slice A0 l0.length c0), (7, .pointer (some (⟨g43, 0, none⟩ : Addr))), (62, .slice Aa105 t102.length cc106), (64, .slice Aa114 (l0.take (mnn (l0.length : Int) 12 : Int).toNat).length cc115)] := hs1.keep [0, 7, 62, 64] (by kernel_rfl)
          clear hs1
          obtain ⟨t120, hx121, H⟩ := bind_some H
          refine go_call hs (op := (Op.call { callee := (Callee.value (Operand.func 18)), args := #[(Operand.tmp 62), (Operand.tmp 64)], argTypes := #[22, 22] })) (ty := 4) (dst := some 65) (g := none) (by kernel_rfl) (by kernel_rfl) (by kernel_rfl) (f := 18) (args := #[.slice Aa105 t102.length cc106, .slice Aa114 (l0.take (mnn (l0.length : Int) 12 : Int).toNat).length cc115]) (by kernel_rfl) (rivetref05_Same.calls Aa105 cc106 t102 Aa114 cc115 (l0.take (mnn (l0.length : Int) 12 : Int).toNat) t120 _ (Rd.of_own (hw.up 1)) (hc117 _ (hr0.old hw)) hx121) ?_
          rintro e wd122 ⟨rfl, hw123⟩
          refine ⟨_, rfl, ?_⟩
          replace hw := hw.call hw123
          intro a hs1
          replace hs : Slots a 89 [(0, .slice A0 l0.length c0), (7, .pointer (some (⟨g43, 0, none⟩ : Addr))), (65, .bool t120)] := hs1.keep [0, 7, 65] (by kernel_rfl)
          clear hs1
          refine go_pvs 5 6 [0, 7, 66] hs (L' := [(0, .slice A0 l0.length c0), (7, .pointer (some (⟨g43, 0, none⟩ : Addr))), (66, .bool t120)]) (by kernel_rfl) ?_ rfl
          clear hs; intro a hs
          cases hb124 : t120
          · replace H := ite_f H (ff hb124)
            rw [hb124] at hs
            refine go_pvs 6 14 [7, 73, 74] hs (L' := [(7, .pointer (some (⟨g43, 0, none⟩ : Addr))), (73, .bool false), (74, .slice A0 l0.length c0)]) (by kernel_rfl) ?_ rfl
            clear hs; intro a hs
            refine go_inline_k hs (op := (Op.call { callee := (Callee.value (Operand.func 14)), args := #[(Operand.tmp 74)], argTypes := #[22] })) (ty := 22) (dst := some 75) (g := some (12, false)) (by kernel_rfl) (by kernel_rfl) (by kernel_rfl) (f := 14) (args := #[.slice A0 l0.length c0]) (by kernel_rfl) (fun KR125 hKR125 => ?_)
            refine go_fn Try.func14 rfl 8 Try.ntmps14 [(0, .slice A0 l0.length c0)] (by kernel_rfl) rfl ?_
            clear hs; intro a hs
            refine go_seq_k fun K126 hK126 => ?_
            refine go_region ?_
            refine go_pvs 0 1 [0] hs (L' := [(0, .slice A0 l0.length c0)]) (by kernel_rfl) ?_ rfl
            clear hs; intro a hs
            refine go_end (by kernel_rfl) ?_
            refine hK126 _ _ ?_
            refine go_seq_k fun K127 hK127 => ?_
            refine go_region ?_
            refine go_pvs 0 4 [3, 6] hs (L' := [(3, .slice A0 l0.length c0), (6, .int .i64 (mnn (l0.length : Int) 12))]) (by kernel_rfl) ?_ rfl
            clear hs; intro a hs
            obtain ⟨hp128, H⟩ := ite_only H
            obtain ⟨Aa129, cc130, hx131, hc132⟩ := c_hi (P := Try.prog) (L := [(3, .slice A0 l0.length c0), (6, .int .i64 (mnn (l0.length : Int) 12))]) (ty := 22) (E := (eI .u32)) (T := 23) (t := 22) (x := (Operand.tmp 3)) (y := (Operand.tmp 6)) (k := .i64) (by kernel_rfl) (by kernel_rfl) (hr0.old hw) (by kernel_rfl) (by kernel_rfl) hp128.1 hp128.2
            refine go_run hs (op := (Op.slice 22 (Operand.tmp 3) none (some (Operand.tmp 6)) none)) (ty := 22) (dst := some 7) (g := none) (by kernel_rfl) (by kernel_rfl) (by kernel_rfl) hx131 [7] (L' := [(7, .slice Aa129 (l0.take (mnn (l0.length : Int) 12 : Int).toNat).length cc130)]) (by kernel_rfl) ?_
            clear hs; intro a hs
            refine go_pvs 5 6 [2] hs (L' := [(2, .slice Aa129 (l0.take (mnn (l0.length : Int) 12 : Int).toNat).length cc130)]) (by kernel_rfl) ?_ rfl
            clear hs; intro a hs
            refine go_end (by kernel_rfl) ?_
            refine hK127 _ _ ?_
            refine wp_ret ?_
            refine ret1 (t := 2) (v := .slice Aa129 (l0.take (mnn (l0.length : Int) 12 : Int).toNat).length cc130) hs (by kernel_rfl) (by kernel_rfl) ?_
            refine ⟨_, rfl, ?_⟩
            refine hKR125 _ _ ?_
            intro a hs1
            have hs : Slots a _ [(7, .pointer (some (⟨g43, 0, none⟩ : Addr))), (73, .bool false), (75, .slice Aa129 (l0.take (mnn (l0.length : Int) 12 : Int).toNat).length cc130)] := hs1.keep [7, 73, 75] (by kernel_rfl)
            clear hs1
            refine go_pvs 15 18 [7, 73, 78] hs (L' := [(7, .pointer (some (⟨g43, 0, none⟩ : Addr))), (73, .bool false), (78, .bool (((l0.take (mnn (l0.length : Int) 12 : Int).toNat).length : Int) == 0))]) (by kernel_rfl) ?_ rfl
            clear hs; intro a hs
            cases hb134 : (((l0.take (mnn (l0.length : Int) 12 : Int).toNat).length : Int) == 0)
            · replace H := ite_f H (beq_eq_false_iff_ne.1 hb134)
              rw [hb134] at hs
              refine go_pvs 18 29 [4] hs (L' := [(4, .bool false)]) (by kernel_rfl) ?_ rfl
              clear hs; intro a hs
              refine go_end (by kernel_rfl) ?_
              replace hw := hw.up 3
              replace hw := hw.up 3
              replace hw := hw.up 2
              replace hw := hw.only 3
              exact hJ6 t103 false _ _ (hs.keep [4] (by kernel_rfl)) hw H
            · replace H := ite_t H (beq_iff_eq.1 hb134)
              rw [hb134] at hs
              refine go_pvs 18 19 [7, 73, 78, 79] hs (L' := [(7, .pointer (some (⟨g43, 0, none⟩ : Addr))), (73, .bool false), (78, .bool true), (79, .pointer (some (⟨g43, 0, none⟩ : Addr)))]) (by kernel_rfl) ?_ rfl
              clear hs; intro a hs
              obtain ⟨ks135, hgks135, hstks135, hbkks135⟩ := hw.lend 1
              obtain ⟨⟨t136, t137⟩, hx138, H⟩ := bind_some H
              refine go_call hs (op := (Op.call { callee := (Callee.value (Operand.func 16)), args := #[(Operand.tmp 79), (Operand.const (Value.int IntKind.i64 1)), (Operand.const (Value.slice none 0 0))], argTypes := #[26, 3, 22] })) (ty := 27) (dst := some 80) (g := some (17, true)) (by kernel_rfl) (by kernel_rfl) (by kernel_rfl) (f := 16) (args := #[.pointer (some (⟨g43, 0, none⟩ : Addr)), .int .i64 1, .slice none 0 0]) (by kernel_rfl) (memory_Memory_Place.calls ks135 (some (⟨g43, 0, none⟩ : Addr)) t103 1 none 0 ([] : List Int) (t136, t137) _ hgks135 (fun wz hkz => (Rd.nil _ _)) hx138) ?_
              rintro e wd139 ⟨rfl, hw140⟩
              refine ⟨_, rfl, ?_⟩
              replace hw := hbkks135 _ _ hw140
              replace hw : St [] w0 _ [own 68 eSmemory_Memory (some (⟨g43, 0, none⟩ : Addr)) 1 [t137], own 23 (eI .u32) Aa105 cc106 t102, own 23 (eI .u32) Aa65 cc66 l99, own 23 (eI .u32) Aa24 cc25 l84] := hw
              intro a hs1
              replace hs : Slots a 89 [(7, .pointer (some (⟨g43, 0, none⟩ : Addr))), (73, .bool false), (78, .bool true), (80, .int .i64 t136)] := hs1.keep [7, 73, 78, 80] (by kernel_rfl)
              clear hs1
              refine go_pvs 20 23 [7, 73, 83] hs (L' := [(7, .pointer (some (⟨g43, 0, none⟩ : Addr))), (73, .bool false), (83, .bool (t136 == 11))]) (by kernel_rfl) ?_ rfl
              clear hs; intro a hs
              cases hb141 : (t136 == 11)
              · replace H := ite_f H (beq_eq_false_iff_ne.1 hb141)
                rw [hb141] at hs
                refine go_pvs 23 29 [4] hs (L' := [(4, .bool false)]) (by kernel_rfl) ?_ rfl
                clear hs; intro a hs
                refine go_end (by kernel_rfl) ?_
                replace hw := hw.up 3
                replace hw := hw.up 3
                replace hw := hw.up 2
                replace hw := hw.only 3
                exact hJ6 t137 false _ _ (hs.keep [4] (by kernel_rfl)) hw H
              · replace H := ite_t H (beq_iff_eq.1 hb141)
                rw [hb141] at hs
                refine go_pvs 23 24 [73, 83, 84] hs (L' := [(73, .bool false), (83, .bool true), (84, .pointer (some (⟨g43, 0, none⟩ : Addr)))]) (by kernel_rfl) ?_ rfl
                clear hs; intro a hs
                obtain ⟨ks142, hgks142, hstks142, hbkks142⟩ := hw.lend 1
                obtain ⟨⟨t143, t144⟩, hx145, H⟩ := bind_some H
                refine go_call hs (op := (Op.call { callee := (Callee.value (Operand.func 16)), args := #[(Operand.tmp 84), (Operand.const (Value.int IntKind.i64 0)), (Operand.const (Value.slice none 0 0))], argTypes := #[26, 3, 22] })) (ty := 27) (dst := some 85) (g := some (22, true)) (by kernel_rfl) (by kernel_rfl) (by kernel_rfl) (f := 16) (args := #[.pointer (some (⟨g43, 0, none⟩ : Addr)), .int .i64 0, .slice none 0 0]) (by kernel_rfl) (memory_Memory_Place.calls ks142 (some (⟨g43, 0, none⟩ : Addr)) t137 0 none 0 ([] : List Int) (t143, t144) _ hgks142 (fun wz hkz => (Rd.nil _ _)) hx145) ?_
                rintro e wd146 ⟨rfl, hw147⟩
                refine ⟨_, rfl, ?_⟩
                replace hw := hbkks142 _ _ hw147
                replace hw : St [] w0 _ [own 68 eSmemory_Memory (some (⟨g43, 0, none⟩ : Addr)) 1 [t144], own 23 (eI .u32) Aa105 cc106 t102, own 23 (eI .u32) Aa65 cc66 l99, own 23 (eI .u32) Aa24 cc25 l84] := hw
                intro a hs1
                replace hs : Slots a 89 [(73, .bool false), (83, .bool true), (85, .int .i64 t143)] := hs1.keep [73, 83, 85] (by kernel_rfl)
                clear hs1
                refine go_pvs 25 29 [4] hs (L' := [(4, .bool (t143 == 0))]) (by kernel_rfl) ?_ rfl
                clear hs; intro a hs
                refine go_end (by kernel_rfl) ?_
                replace hw := hw.up 3
                replace hw := hw.up 3
                replace hw := hw.up 2
                replace hw := hw.only 3
                exact hJ6 t144 (t143 == 0) _ _ (hs.keep [4] (by kernel_rfl)) hw H
          · replace H := ite_t H hb124
            rw [hb124] at hs
            refine go_pvs 6 8 [0, 7, 66, 67, 68] hs (L' := [(0, .slice A0 l0.length c0), (7, .pointer (some (⟨g43, 0, none⟩ : Addr))), (66, .bool true), (67, .pointer (some (⟨g43, 0, none⟩ : Addr))), (68, .slice A0 l0.length c0)]) (by kernel_rfl) ?_ rfl
            clear hs; intro a hs
            refine go_inline_k hs (op := (Op.call { callee := (Callee.value (Operand.func 14)), args := #[(Operand.tmp 68)], argTypes := #[22] })) (ty := 22) (dst := some 69) (g := some (5, true)) (by kernel_rfl) (by kernel_rfl) (by kernel_rfl) (f := 14) (args := #[.slice A0 l0.length c0]) (by kernel_rfl) (fun KR148 hKR148 => ?_)
            refine go_fn Try.func14 rfl 8 Try.ntmps14 [(0, .slice A0 l0.length c0)] (by kernel_rfl) rfl ?_
            clear hs; intro a hs
            refine go_seq_k fun K149 hK149 => ?_
            refine go_region ?_
            refine go_pvs 0 1 [0] hs (L' := [(0, .slice A0 l0.length c0)]) (by kernel_rfl) ?_ rfl
            clear hs; intro a hs
            refine go_end (by kernel_rfl) ?_
            refine hK149 _ _ ?_
            refine go_seq_k fun K150 hK150 => ?_
            refine go_region ?_
            refine go_pvs 0 4 [3, 6] hs (L' := [(3, .slice A0 l0.length c0), (6, .int .i64 (mnn (l0.length : Int) 12))]) (by kernel_rfl) ?_ rfl
            clear hs; intro a hs
            obtain ⟨hp151, H⟩ := ite_only H
            obtain ⟨Aa152, cc153, hx154, hc155⟩ := c_hi (P := Try.prog) (L := [(3, .slice A0 l0.length c0), (6, .int .i64 (mnn (l0.length : Int) 12))]) (ty := 22) (E := (eI .u32)) (T := 23) (t := 22) (x := (Operand.tmp 3)) (y := (Operand.tmp 6)) (k := .i64) (by kernel_rfl) (by kernel_rfl) (hr0.old hw) (by kernel_rfl) (by kernel_rfl) hp151.1 hp151.2
            refine go_run hs (op := (Op.slice 22 (Operand.tmp 3) none (some (Operand.tmp 6)) none)) (ty := 22) (dst := some 7) (g := none) (by kernel_rfl) (by kernel_rfl) (by kernel_rfl) hx154 [7] (L' := [(7, .slice Aa152 (l0.take (mnn (l0.length : Int) 12 : Int).toNat).length cc153)]) (by kernel_rfl) ?_
            clear hs; intro a hs
            refine go_pvs 5 6 [2] hs (L' := [(2, .slice Aa152 (l0.take (mnn (l0.length : Int) 12 : Int).toNat).length cc153)]) (by kernel_rfl) ?_ rfl
            clear hs; intro a hs
            refine go_end (by kernel_rfl) ?_
            refine hK150 _ _ ?_
            refine wp_ret ?_
            refine ret1 (t := 2) (v := .slice Aa152 (l0.take (mnn (l0.length : Int) 12 : Int).toNat).length cc153) hs (by kernel_rfl) (by kernel_rfl) ?_
            refine ⟨_, rfl, ?_⟩
            refine hKR148 _ _ ?_
            intro a hs1
            have hs : Slots a _ [(0, .slice A0 l0.length c0), (7, .pointer (some (⟨g43, 0, none⟩ : Addr))), (66, .bool true), (67, .pointer (some (⟨g43, 0, none⟩ : Addr))), (69, .slice Aa152 (l0.take (mnn (l0.length : Int) 12 : Int).toNat).length cc153)] := hs1.keep [0, 7, 66, 67, 69] (by kernel_rfl)
            clear hs1
            obtain ⟨ks157, hgks157, hstks157, hbkks157⟩ := hw.lend 1
            obtain ⟨⟨t158, t159⟩, hx160, H⟩ := bind_some H
            refine go_call hs (op := (Op.call { callee := (Callee.value (Operand.func 16)), args := #[(Operand.tmp 67), (Operand.const (Value.int IntKind.i64 1)), (Operand.tmp 69)], argTypes := #[26, 3, 22] })) (ty := 27) (dst := some 70) (g := some (5, true)) (by kernel_rfl) (by kernel_rfl) (by kernel_rfl) (f := 16) (args := #[.pointer (some (⟨g43, 0, none⟩ : Addr)), .int .i64 1, .slice Aa152 (l0.take (mnn (l0.length : Int) 12 : Int).toNat).length cc153]) (by kernel_rfl) (memory_Memory_Place.calls ks157 (some (⟨g43, 0, none⟩ : Addr)) t103 1 Aa152 cc153 (l0.take (mnn (l0.length : Int) 12 : Int).toNat) (t158, t159) _ hgks157 (fun wz hkz => (hc155 _ (hr0.old (hstks157 _ hkz)))) hx160) ?_
            rintro e wd161 ⟨rfl, hw162⟩
            refine ⟨_, rfl, ?_⟩
            replace hw := hbkks157 _ _ hw162
            replace hw : St [] w0 _ [own 68 eSmemory_Memory (some (⟨g43, 0, none⟩ : Addr)) 1 [t159], own 23 (eI .u32) Aa105 cc106 t102, own 23 (eI .u32) Aa65 cc66 l99, own 23 (eI .u32) Aa24 cc25 l84] := hw
            intro a hs1
            replace hs : Slots a 89 [(0, .slice A0 l0.length c0), (7, .pointer (some (⟨g43, 0, none⟩ : Addr))), (66, .bool true), (70, .int .i64 t158)] := hs1.keep [0, 7, 66, 70] (by kernel_rfl)
            clear hs1
            refine go_pvs 10 13 [0, 7, 73] hs (L' := [(0, .slice A0 l0.length c0), (7, .pointer (some (⟨g43, 0, none⟩ : Addr))), (73, .bool (t158 == 11))]) (by kernel_rfl) ?_ rfl
            clear hs; intro a hs
            cases hb163 : (t158 == 11)
            · replace H := ite_f H (beq_eq_false_iff_ne.1 hb163)
              rw [hb163] at hs
              refine go_pvs 13 14 [7, 73, 74] hs (L' := [(7, .pointer (some (⟨g43, 0, none⟩ : Addr))), (73, .bool false), (74, .slice A0 l0.length c0)]) (by kernel_rfl) ?_ rfl
              clear hs; intro a hs
              refine go_inline_k hs (op := (Op.call { callee := (Callee.value (Operand.func 14)), args := #[(Operand.tmp 74)], argTypes := #[22] })) (ty := 22) (dst := some 75) (g := some (12, false)) (by kernel_rfl) (by kernel_rfl) (by kernel_rfl) (f := 14) (args := #[.slice A0 l0.length c0]) (by kernel_rfl) (fun KR164 hKR164 => ?_)
              refine go_fn Try.func14 rfl 8 Try.ntmps14 [(0, .slice A0 l0.length c0)] (by kernel_rfl) rfl ?_
              clear hs; intro a hs
              refine go_seq_k fun K165 hK165 => ?_
              refine go_region ?_
              refine go_pvs 0 1 [0] hs (L' := [(0, .slice A0 l0.length c0)]) (by kernel_rfl) ?_ rfl
              clear hs; intro a hs
              refine go_end (by kernel_rfl) ?_
              refine hK165 _ _ ?_
              refine go_seq_k fun K166 hK166 => ?_
              refine go_region ?_
              refine go_pvs 0 4 [3, 6] hs (L' := [(3, .slice A0 l0.length c0), (6, .int .i64 (mnn (l0.length : Int) 12))]) (by kernel_rfl) ?_ rfl
              clear hs; intro a hs
              obtain ⟨hp167, H⟩ := ite_only H
              obtain ⟨Aa168, cc169, hx170, hc171⟩ := c_hi (P := Try.prog) (L := [(3, .slice A0 l0.length c0), (6, .int .i64 (mnn (l0.length : Int) 12))]) (ty := 22) (E := (eI .u32)) (T := 23) (t := 22) (x := (Operand.tmp 3)) (y := (Operand.tmp 6)) (k := .i64) (by kernel_rfl) (by kernel_rfl) (hr0.old hw) (by kernel_rfl) (by kernel_rfl) hp167.1 hp167.2
              refine go_run hs (op := (Op.slice 22 (Operand.tmp 3) none (some (Operand.tmp 6)) none)) (ty := 22) (dst := some 7) (g := none) (by kernel_rfl) (by kernel_rfl) (by kernel_rfl) hx170 [7] (L' := [(7, .slice Aa168 (l0.take (mnn (l0.length : Int) 12 : Int).toNat).length cc169)]) (by kernel_rfl) ?_
              clear hs; intro a hs
              refine go_pvs 5 6 [2] hs (L' := [(2, .slice Aa168 (l0.take (mnn (l0.length : Int) 12 : Int).toNat).length cc169)]) (by kernel_rfl) ?_ rfl
              clear hs; intro a hs
              refine go_end (by kernel_rfl) ?_
              refine hK166 _ _ ?_
              refine wp_ret ?_
              refine ret1 (t := 2) (v := .slice Aa168 (l0.take (mnn (l0.length : Int) 12 : Int).toNat).length cc169) hs (by kernel_rfl) (by kernel_rfl) ?_
              refine ⟨_, rfl, ?_⟩
              refine hKR164 _ _ ?_
              intro a hs1
              have hs : Slots a _ [(7, .pointer (some (⟨g43, 0, none⟩ : Addr))), (73, .bool false), (75, .slice Aa168 (l0.take (mnn (l0.length : Int) 12 : Int).toNat).length cc169)] := hs1.keep [7, 73, 75] (by kernel_rfl)
              clear hs1
              refine go_pvs 15 18 [7, 73, 78] hs (L' := [(7, .pointer (some (⟨g43, 0, none⟩ : Addr))), (73, .bool false), (78, .bool (((l0.take (mnn (l0.length : Int) 12 : Int).toNat).length : Int) == 0))]) (by kernel_rfl) ?_ rfl
              clear hs; intro a hs
              cases hb173 : (((l0.take (mnn (l0.length : Int) 12 : Int).toNat).length : Int) == 0)
              · replace H := ite_f H (beq_eq_false_iff_ne.1 hb173)
                rw [hb173] at hs
                refine go_pvs 18 29 [4] hs (L' := [(4, .bool false)]) (by kernel_rfl) ?_ rfl
                clear hs; intro a hs
                refine go_end (by kernel_rfl) ?_
                replace hw := hw.up 3
                replace hw := hw.up 3
                replace hw := hw.up 2
                replace hw := hw.only 3
                exact hJ6 t159 false _ _ (hs.keep [4] (by kernel_rfl)) hw H
              · replace H := ite_t H (beq_iff_eq.1 hb173)
                rw [hb173] at hs
                refine go_pvs 18 19 [7, 73, 78, 79] hs (L' := [(7, .pointer (some (⟨g43, 0, none⟩ : Addr))), (73, .bool false), (78, .bool true), (79, .pointer (some (⟨g43, 0, none⟩ : Addr)))]) (by kernel_rfl) ?_ rfl
                clear hs; intro a hs
                obtain ⟨ks174, hgks174, hstks174, hbkks174⟩ := hw.lend 1
                obtain ⟨⟨t175, t176⟩, hx177, H⟩ := bind_some H
                refine go_call hs (op := (Op.call { callee := (Callee.value (Operand.func 16)), args := #[(Operand.tmp 79), (Operand.const (Value.int IntKind.i64 1)), (Operand.const (Value.slice none 0 0))], argTypes := #[26, 3, 22] })) (ty := 27) (dst := some 80) (g := some (17, true)) (by kernel_rfl) (by kernel_rfl) (by kernel_rfl) (f := 16) (args := #[.pointer (some (⟨g43, 0, none⟩ : Addr)), .int .i64 1, .slice none 0 0]) (by kernel_rfl) (memory_Memory_Place.calls ks174 (some (⟨g43, 0, none⟩ : Addr)) t159 1 none 0 ([] : List Int) (t175, t176) _ hgks174 (fun wz hkz => (Rd.nil _ _)) hx177) ?_
                rintro e wd178 ⟨rfl, hw179⟩
                refine ⟨_, rfl, ?_⟩
                replace hw := hbkks174 _ _ hw179
                replace hw : St [] w0 _ [own 68 eSmemory_Memory (some (⟨g43, 0, none⟩ : Addr)) 1 [t176], own 23 (eI .u32) Aa105 cc106 t102, own 23 (eI .u32) Aa65 cc66 l99, own 23 (eI .u32) Aa24 cc25 l84] := hw
                intro a hs1
                replace hs : Slots a 89 [(7, .pointer (some (⟨g43, 0, none⟩ : Addr))), (73, .bool false), (78, .bool true), (80, .int .i64 t175)] := hs1.keep [7, 73, 78, 80] (by kernel_rfl)
                clear hs1
                refine go_pvs 20 23 [7, 73, 83] hs (L' := [(7, .pointer (some (⟨g43, 0, none⟩ : Addr))), (73, .bool false), (83, .bool (t175 == 11))]) (by kernel_rfl) ?_ rfl
                clear hs; intro a hs
                cases hb180 : (t175 == 11)
                · replace H := ite_f H (beq_eq_false_iff_ne.1 hb180)
                  rw [hb180] at hs
                  refine go_pvs 23 29 [4] hs (L' := [(4, .bool false)]) (by kernel_rfl) ?_ rfl
                  clear hs; intro a hs
                  refine go_end (by kernel_rfl) ?_
                  replace hw := hw.up 3
                  replace hw := hw.up 3
                  replace hw := hw.up 2
                  replace hw := hw.only 3
                  exact hJ6 t176 false _ _ (hs.keep [4] (by kernel_rfl)) hw H
                · replace H := ite_t H (beq_iff_eq.1 hb180)
                  rw [hb180] at hs
                  refine go_pvs 23 24 [73, 83, 84] hs (L' := [(73, .bool false), (83, .bool true), (84, .pointer (some (⟨g43, 0, none⟩ : Addr)))]) (by kernel_rfl) ?_ rfl
                  clear hs; intro a hs
                  obtain ⟨ks181, hgks181, hstks181, hbkks181⟩ := hw.lend 1
                  obtain ⟨⟨t182, t183⟩, hx184, H⟩ := bind_some H
                  refine go_call hs (op := (Op.call { callee := (Callee.value (Operand.func 16)), args := #[(Operand.tmp 84), (Operand.const (Value.int IntKind.i64 0)), (Operand.const (Value.slice none 0 0))], argTypes := #[26, 3, 22] })) (ty := 27) (dst := some 85) (g := some (22, true)) (by kernel_rfl) (by kernel_rfl) (by kernel_rfl) (f := 16) (args := #[.pointer (some (⟨g43, 0, none⟩ : Addr)), .int .i64 0, .slice none 0 0]) (by kernel_rfl) (memory_Memory_Place.calls ks181 (some (⟨g43, 0, none⟩ : Addr)) t176 0 none 0 ([] : List Int) (t182, t183) _ hgks181 (fun wz hkz => (Rd.nil _ _)) hx184) ?_
                  rintro e wd185 ⟨rfl, hw186⟩
                  refine ⟨_, rfl, ?_⟩
                  replace hw := hbkks181 _ _ hw186
                  replace hw : St [] w0 _ [own 68 eSmemory_Memory (some (⟨g43, 0, none⟩ : Addr)) 1 [t183], own 23 (eI .u32) Aa105 cc106 t102, own 23 (eI .u32) Aa65 cc66 l99, own 23 (eI .u32) Aa24 cc25 l84] := hw
                  intro a hs1
                  replace hs : Slots a 89 [(73, .bool false), (83, .bool true), (85, .int .i64 t182)] := hs1.keep [73, 83, 85] (by kernel_rfl)
                  clear hs1
                  refine go_pvs 25 29 [4] hs (L' := [(4, .bool (t182 == 0))]) (by kernel_rfl) ?_ rfl
                  clear hs; intro a hs
                  refine go_end (by kernel_rfl) ?_
                  replace hw := hw.up 3
                  replace hw := hw.up 3
                  replace hw := hw.up 2
                  replace hw := hw.only 3
                  exact hJ6 t183 (t182 == 0) _ _ (hs.keep [4] (by kernel_rfl)) hw H
            · replace H := ite_t H (beq_iff_eq.1 hb163)
              rw [hb163] at hs
              refine go_pvs 13 29 [4] hs (L' := [(4, .bool true)]) (by kernel_rfl) ?_ rfl
              clear hs; intro a hs
              refine go_end (by kernel_rfl) ?_
              replace hw := hw.up 3
              replace hw := hw.up 3
              replace hw := hw.up 2
              replace hw := hw.only 3
              exact hJ6 t159 true _ _ (hs.keep [4] (by kernel_rfl)) hw H
        clear H
        refine go_loop (σ := (List Int) × Int) (fun σ a w => Slots a 89 [(0, .slice A0 l0.length c0), (1, .int .u32 a1), (7, .pointer (some (⟨g43, 0, none⟩ : Addr))), (9, .slice Aa65 σ.1.length cc66), (11, .int .i64 σ.2)] ∧ St [] w0 w [own 68 eSmemory_Memory (some (⟨g43, 0, none⟩ : Addr)) 1 [t63], own 23 (eI .u32) Aa65 cc66 σ.1, own 23 (eI .u32) Aa24 cc25 l84]) hl87 (by exact ⟨hs.keep [0, 1, 7, 9, 11] (by kernel_rfl), hw⟩) ?_
        rintro ⟨l88, v89⟩ a w ⟨hs, hw⟩ o H hr87
        replace hs : Slots a 89 [(0, .slice A0 l0.length c0), (1, .int .u32 a1), (7, .pointer (some (⟨g43, 0, none⟩ : Addr))), (9, .slice Aa65 l88.length cc66), (11, .int .i64 v89)] := hs
        replace hw : St [] w0 w [own 68 eSmemory_Memory (some (⟨g43, 0, none⟩ : Addr)) 1 [t63], own 23 (eI .u32) Aa65 cc66 l88, own 23 (eI .u32) Aa24 cc25 l84] := hw
        replace H : rivetlaw05_MemoryOwn.b87 a1 l88 v89 = some o := H
        unfold rivetlaw05_MemoryOwn.b87 at H
        refine go_seq_k fun K90 hK90 => ?_
        refine go_seq_k fun K91 hK91 => ?_
        refine go_region ?_
        refine go_pvs 0 4 [0, 1, 7, 9, 11, 54] hs (L' := [(0, .slice A0 l0.length c0), (1, .int .u32 a1), (7, .pointer (some (⟨g43, 0, none⟩ : Addr))), (9, .slice Aa65 l88.length cc66), (11, .int .i64 v89), (54, .bool (decide (v89 < (l88.length : Int))))]) (by kernel_rfl) ?_ rfl
        clear hs; intro a hs
        refine go_end (by kernel_rfl) ?_
        refine hK91 _ _ ?_
        refine go_cond hs (decide (v89 < (l88.length : Int))) (by kernel_rfl) (fun hc => ?_) (fun hc => ?_)
        · replace H := ite_t H (of_decide_eq_true hc)
          have hb92 := hc
          rw [hb92] at hs
          refine wp_skip ?_
          refine hK90 _ _ ?_
          refine go_seq_k fun K93 hK93 => ?_
          refine wp_block ?_
          refine go_region ?_
          refine go_pvs 0 3 [0, 1, 7, 9, 11, 57, 58, 59] hs (L' := [(0, .slice A0 l0.length c0), (1, .int .u32 a1), (7, .pointer (some (⟨g43, 0, none⟩ : Addr))), (9, .slice Aa65 l88.length cc66), (11, .int .i64 v89), (57, .slice Aa65 l88.length cc66), (58, .int .i64 v89), (59, .int .u32 a1)]) (by kernel_rfl) ?_ rfl
          clear hs; intro a hs
          obtain ⟨hp94, H⟩ := ite_only H
          obtain ⟨ad95, rfl⟩ := (Rd.of_own (hw.up 1)).some hp94.1 hp94.2
          refine go_run hs (op := (Op.indexAddr 22 (Operand.tmp 57) (Operand.tmp 58))) (ty := 0) (dst := some 60) (g := none) (by kernel_rfl) (by kernel_rfl) (by kernel_rfl) (x_idx (T := 23) (sz := 1) (a := ad95) (n := l88.length) (cap := cc66) (k := .i64) (i := v89) (by kernel_rfl) (by kernel_rfl) (by kernel_rfl) (by kernel_rfl) hp94.1 hp94.2) [0, 1, 7, 9, 11, 59, 60] (L' := [(0, .slice A0 l0.length c0), (1, .int .u32 a1), (7, .pointer (some (⟨g43, 0, none⟩ : Addr))), (9, .slice (some ad95) l88.length cc66), (11, .int .i64 v89), (59, .int .u32 a1), (60, .pointer (some (ad95.add (v89.toNat * 1))))]) (by kernel_rfl) ?_
          clear hs; intro a hs
          replace hw := hw.up 1
          obtain ⟨wd96, hx97, hw⟩ := x_put (P := Try.prog) (L := [(0, .slice A0 l0.length c0), (1, .int .u32 a1), (7, .pointer (some (⟨g43, 0, none⟩ : Addr))), (9, .slice (some ad95) l88.length cc66), (11, .int .i64 v89), (59, .int .u32 a1), (60, .pointer (some (ad95.add (v89.toNat * 1))))]) (ty := 0) (t := 23) (x := (Operand.tmp 60)) (y := (Operand.tmp 59)) (off := 0) (p := ad95.add (v89.toNat * 1)) (v := .int .u32 a1) (vs := [.int .u32 a1]) (i := v89) (e' := (a1 : Int)) hw rfl hp94.1 hp94.2 (by kernel_rfl) rfl (by kernel_rfl) rfl (by kernel_rfl) (Nat.le_of_ble_eq_true rfl) (by simp [Value.oneCell']) (by kernel_rfl)
          refine go_unit hs (op := (Op.store 23 (Operand.tmp 60) (Operand.tmp 59))) (ty := 0) (dst := none) (g := none) (by kernel_rfl) (by kernel_rfl) (by kernel_rfl) hx97 [0, 1, 7, 9, 11] (L' := [(0, .slice A0 l0.length c0), (1, .int .u32 a1), (7, .pointer (some (⟨g43, 0, none⟩ : Addr))), (9, .slice (some ad95) l88.length cc66), (11, .int .i64 v89)]) (by kernel_rfl) ?_
          clear hs; intro a hs
          replace hs : Slots a 89 [(0, .slice A0 l0.length c0), (1, .int .u32 a1), (7, .pointer (some (⟨g43, 0, none⟩ : Addr))), (9, .slice (some ad95) (l88.set (v89 : Int).toNat a1).length cc66), (11, .int .i64 v89)] := by rw [show (l88.set (v89 : Int).toNat a1).length = (l88).length from List.length_set]; exact hs
          refine go_end (by kernel_rfl) ?_
          refine ib_norm ?_
          refine hK93 _ _ ?_
          refine go_region ?_
          refine go_pvs 0 3 [0, 1, 7, 9, 11] hs (L' := [(0, .slice A0 l0.length c0), (1, .int .u32 a1), (7, .pointer (some (⟨g43, 0, none⟩ : Addr))), (9, .slice (some ad95) (l88.set (v89 : Int).toNat a1).length cc66), (11, .int .i64 (w64 (v89 + 1)))]) (by kernel_rfl) ?_ rfl
          clear hs; intro a hs
          refine go_end (by kernel_rfl) ?_
          replace hw := hw.up 2
          replace hw := hw.up 1
          replace hw := hw.up 2
          replace hw := hw.only 3
          exact round_end (l88.set (v89 : Int).toNat a1, w64 (v89 + 1)) (Option.some.inj H).symm ⟨hs.keep [0, 1, 7, 9, 11] (by kernel_rfl), hw⟩
        · replace H := ite_f H (of_decide_eq_false hc)
          have hb98 := hc
          rw [hb98] at hs
          refine wp_exit ?_
          refine th_exit ?_
          refine th_exit ?_
          refine in_block ?_
          replace hw := hw.up 2
          replace hw := hw.up 2
          replace hw := hw.up 2
          replace hw := hw.only 3
          rw [← hr87 _ (Option.some.inj H).symm] at HX87
          exact hJ5 l88 _ _ (hs.keep [0, 7] (by kernel_rfl)) hw HX87
      clear H
      refine go_loop (σ := (List Int) × Int) (fun σ a w => Slots a 89 [(0, .slice A0 l0.length c0), (1, .int .u32 a1), (6, .slice Aa24 σ.1.length cc25), (7, .pointer (some (⟨g43, 0, none⟩ : Addr))), (9, .slice Aa65 t62.length cc66), (10, .int .i64 σ.2)] ∧ St [] w0 w [own 68 eSmemory_Memory (some (⟨g43, 0, none⟩ : Addr)) 1 [t63], own 23 (eI .u32) Aa65 cc66 t62, own 23 (eI .u32) Aa24 cc25 σ.1]) hl72 (by exact ⟨hs.keep [0, 1, 6, 7, 9, 10] (by kernel_rfl), hw⟩) ?_
      rintro ⟨l73, v74⟩ a w ⟨hs, hw⟩ o H hr72
      replace hs : Slots a 89 [(0, .slice A0 l0.length c0), (1, .int .u32 a1), (6, .slice Aa24 l73.length cc25), (7, .pointer (some (⟨g43, 0, none⟩ : Addr))), (9, .slice Aa65 t62.length cc66), (10, .int .i64 v74)] := hs
      replace hw : St [] w0 w [own 68 eSmemory_Memory (some (⟨g43, 0, none⟩ : Addr)) 1 [t63], own 23 (eI .u32) Aa65 cc66 t62, own 23 (eI .u32) Aa24 cc25 l73] := hw
      replace H : rivetlaw05_MemoryOwn.b72 a1 l73 v74 = some o := H
      unfold rivetlaw05_MemoryOwn.b72 at H
      refine go_seq_k fun K75 hK75 => ?_
      refine go_seq_k fun K76 hK76 => ?_
      refine go_region ?_
      refine go_pvs 0 4 [0, 1, 6, 7, 9, 10, 44] hs (L' := [(0, .slice A0 l0.length c0), (1, .int .u32 a1), (6, .slice Aa24 l73.length cc25), (7, .pointer (some (⟨g43, 0, none⟩ : Addr))), (9, .slice Aa65 t62.length cc66), (10, .int .i64 v74), (44, .bool (decide (v74 < (l73.length : Int))))]) (by kernel_rfl) ?_ rfl
      clear hs; intro a hs
      refine go_end (by kernel_rfl) ?_
      refine hK76 _ _ ?_
      refine go_cond hs (decide (v74 < (l73.length : Int))) (by kernel_rfl) (fun hc => ?_) (fun hc => ?_)
      · replace H := ite_t H (of_decide_eq_true hc)
        have hb77 := hc
        rw [hb77] at hs
        refine wp_skip ?_
        refine hK75 _ _ ?_
        refine go_seq_k fun K78 hK78 => ?_
        refine wp_block ?_
        refine go_region ?_
        refine go_pvs 0 3 [0, 1, 6, 7, 9, 10, 47, 48, 49] hs (L' := [(0, .slice A0 l0.length c0), (1, .int .u32 a1), (6, .slice Aa24 l73.length cc25), (7, .pointer (some (⟨g43, 0, none⟩ : Addr))), (9, .slice Aa65 t62.length cc66), (10, .int .i64 v74), (47, .slice Aa24 l73.length cc25), (48, .int .i64 v74), (49, .int .u32 a1)]) (by kernel_rfl) ?_ rfl
        clear hs; intro a hs
        obtain ⟨hp79, H⟩ := ite_only H
        obtain ⟨ad80, rfl⟩ := (Rd.of_own (hw.up 2)).some hp79.1 hp79.2
        refine go_run hs (op := (Op.indexAddr 22 (Operand.tmp 47) (Operand.tmp 48))) (ty := 0) (dst := some 50) (g := none) (by kernel_rfl) (by kernel_rfl) (by kernel_rfl) (x_idx (T := 23) (sz := 1) (a := ad80) (n := l73.length) (cap := cc25) (k := .i64) (i := v74) (by kernel_rfl) (by kernel_rfl) (by kernel_rfl) (by kernel_rfl) hp79.1 hp79.2) [0, 1, 6, 7, 9, 10, 49, 50] (L' := [(0, .slice A0 l0.length c0), (1, .int .u32 a1), (6, .slice (some ad80) l73.length cc25), (7, .pointer (some (⟨g43, 0, none⟩ : Addr))), (9, .slice Aa65 t62.length cc66), (10, .int .i64 v74), (49, .int .u32 a1), (50, .pointer (some (ad80.add (v74.toNat * 1))))]) (by kernel_rfl) ?_
        clear hs; intro a hs
        replace hw := hw.up 2
        obtain ⟨wd81, hx82, hw⟩ := x_put (P := Try.prog) (L := [(0, .slice A0 l0.length c0), (1, .int .u32 a1), (6, .slice (some ad80) l73.length cc25), (7, .pointer (some (⟨g43, 0, none⟩ : Addr))), (9, .slice Aa65 t62.length cc66), (10, .int .i64 v74), (49, .int .u32 a1), (50, .pointer (some (ad80.add (v74.toNat * 1))))]) (ty := 0) (t := 23) (x := (Operand.tmp 50)) (y := (Operand.tmp 49)) (off := 0) (p := ad80.add (v74.toNat * 1)) (v := .int .u32 a1) (vs := [.int .u32 a1]) (i := v74) (e' := (a1 : Int)) hw rfl hp79.1 hp79.2 (by kernel_rfl) rfl (by kernel_rfl) rfl (by kernel_rfl) (Nat.le_of_ble_eq_true rfl) (by simp [Value.oneCell']) (by kernel_rfl)
        refine go_unit hs (op := (Op.store 23 (Operand.tmp 50) (Operand.tmp 49))) (ty := 0) (dst := none) (g := none) (by kernel_rfl) (by kernel_rfl) (by kernel_rfl) hx82 [0, 1, 6, 7, 9, 10] (L' := [(0, .slice A0 l0.length c0), (1, .int .u32 a1), (6, .slice (some ad80) l73.length cc25), (7, .pointer (some (⟨g43, 0, none⟩ : Addr))), (9, .slice Aa65 t62.length cc66), (10, .int .i64 v74)]) (by kernel_rfl) ?_
        clear hs; intro a hs
        replace hs : Slots a 89 [(0, .slice A0 l0.length c0), (1, .int .u32 a1), (6, .slice (some ad80) (l73.set (v74 : Int).toNat a1).length cc25), (7, .pointer (some (⟨g43, 0, none⟩ : Addr))), (9, .slice Aa65 t62.length cc66), (10, .int .i64 v74)] := by rw [show (l73.set (v74 : Int).toNat a1).length = (l73).length from List.length_set]; exact hs
        refine go_end (by kernel_rfl) ?_
        refine ib_norm ?_
        refine hK78 _ _ ?_
        refine go_region ?_
        refine go_pvs 0 3 [0, 1, 6, 7, 9, 10] hs (L' := [(0, .slice A0 l0.length c0), (1, .int .u32 a1), (6, .slice (some ad80) (l73.set (v74 : Int).toNat a1).length cc25), (7, .pointer (some (⟨g43, 0, none⟩ : Addr))), (9, .slice Aa65 t62.length cc66), (10, .int .i64 (w64 (v74 + 1)))]) (by kernel_rfl) ?_ rfl
        clear hs; intro a hs
        refine go_end (by kernel_rfl) ?_
        replace hw := hw.up 2
        replace hw := hw.up 2
        replace hw := hw.only 3
        exact round_end (l73.set (v74 : Int).toNat a1, w64 (v74 + 1)) (Option.some.inj H).symm ⟨hs.keep [0, 1, 6, 7, 9, 10] (by kernel_rfl), hw⟩
      · replace H := ite_f H (of_decide_eq_false hc)
        have hb83 := hc
        rw [hb83] at hs
        refine wp_exit ?_
        refine th_exit ?_
        refine th_exit ?_
        refine in_block ?_
        replace hw := hw.up 2
        replace hw := hw.up 2
        replace hw := hw.up 2
        replace hw := hw.only 3
        rw [← hr72 _ (Option.some.inj H).symm] at HX72
        exact hJ4 l73 _ _ (hs.keep [0, 1, 7, 9] (by kernel_rfl)) hw HX72
    refine go_seq_k fun K45 hK45 => ?_
    have hJ2 : ∀ (v54 : Smemory_Memory) (v55 : Bool) (a : Act) (w : World), Slots a 89 [(0, .slice A0 l0.length c0), (1, .int .u32 a1), (6, .slice Aa24 (([] : List Int) ++ (l0.take (mnn (l0.length : Int) 12 : Int).toNat)).length cc25), (7, .pointer (some (⟨g43, 0, none⟩ : Addr))), (38, .bool v55)] → St [] w0 w [own 68 eSmemory_Memory (some (⟨g43, 0, none⟩ : Addr)) 1 [v54], own 23 (eI .u32) Aa24 cc25 (([] : List Int) ++ (l0.take (mnn (l0.length : Int) 12 : Int).toNat))] → rivetlaw05_MemoryOwn.j2 a1 l0 v54 v55 = some r → K45 a w := by
      intro v54 v55 a w hs hw H
      unfold rivetlaw05_MemoryOwn.j2 at H
      refine hK45 _ _ ?_
      refine go_cond hs v55 (by kernel_rfl) (fun hc => ?_) (fun hc => ?_)
      · replace H := ite_t H hc
        have hb56 := hc
        rw [hb56] at hs
        refine go_seq_k fun K57 hK57 => ?_
        refine go_region ?_
        refine go_pvs 0 1 [4] hs (L' := [(4, .bool false)]) (by kernel_rfl) ?_ rfl
        clear hs; intro a hs
        refine go_end (by kernel_rfl) ?_
        refine hK57 _ _ ?_
        refine wp_ret ?_
        refine th_ret ?_
        obtain rfl := Option.some.inj H
        refine ret1 (t := 4) (v := .bool false) hs (by kernel_rfl) (by kernel_rfl) ?_
        exact ⟨rfl, hw.only 0⟩
      · replace H := ite_f H (ff hc)
        have hb58 := hc
        rw [hb58] at hs
        refine wp_skip ?_
        replace hw := hw.up 1
        replace hw := hw.up 1
        replace hw := hw.only 2
        exact hJ3 v54 _ _ (hs.keep [0, 1, 6, 7] (by kernel_rfl)) hw H
    refine go_region ?_
    refine go_pvs 0 3 [0, 1, 6, 7, 8, 25] hs (L' := [(0, .slice A0 l0.length c0), (1, .int .u32 a1), (6, .slice Aa24 (([] : List Int) ++ (l0.take (mnn (l0.length : Int) 12 : Int).toNat)).length cc25), (7, .pointer (some (⟨g43, 0, none⟩ : Addr))), (8, .int .i64 t32), (25, .bool (!t4))]) (by kernel_rfl) ?_ rfl
    clear hs; intro a hs
    cases hb46 : (!t4)
    · replace H := ite_t H (nf hb46)
      rw [hb46] at hs
      refine go_pvs 3 11 [0, 1, 6, 7, 33] hs (L' := [(0, .slice A0 l0.length c0), (1, .int .u32 a1), (6, .slice Aa24 (([] : List Int) ++ (l0.take (mnn (l0.length : Int) 12 : Int).toNat)).length cc25), (7, .pointer (some (⟨g43, 0, none⟩ : Addr))), (33, .bool (t32 != 0))]) (by kernel_rfl) ?_ rfl
      clear hs; intro a hs
      cases hb47 : (t32 != 0)
      · replace H := ite_t H (bne_eq_false_iff_eq.1 hb47)
        rw [hb47] at hs
        refine go_pvs 11 13 [0, 1, 6, 7, 33, 34, 35] hs (L' := [(0, .slice A0 l0.length c0), (1, .int .u32 a1), (6, .slice Aa24 (([] : List Int) ++ (l0.take (mnn (l0.length : Int) 12 : Int).toNat)).length cc25), (7, .pointer (some (⟨g43, 0, none⟩ : Addr))), (33, .bool false), (34, .pointer (some (⟨g43, 0, none⟩ : Addr))), (35, .slice Aa24 (([] : List Int) ++ (l0.take (mnn (l0.length : Int) 12 : Int).toNat)).length cc25)]) (by kernel_rfl) ?_ rfl
        clear hs; intro a hs
        obtain ⟨ks48, hgks48, hstks48, hbkks48⟩ := hw.lend 1
        obtain ⟨⟨t49, t50⟩, hx51, H⟩ := bind_some H
        refine go_call hs (op := (Op.call { callee := (Callee.value (Operand.func 16)), args := #[(Operand.tmp 34), (Operand.const (Value.int IntKind.i64 0)), (Operand.tmp 35)], argTypes := #[26, 3, 22] })) (ty := 27) (dst := some 36) (g := some (10, false)) (by kernel_rfl) (by kernel_rfl) (by kernel_rfl) (f := 16) (args := #[.pointer (some (⟨g43, 0, none⟩ : Addr)), .int .i64 0, .slice Aa24 (([] : List Int) ++ (l0.take (mnn (l0.length : Int) 12 : Int).toNat)).length cc25]) (by kernel_rfl) (memory_Memory_Place.calls ks48 (some (⟨g43, 0, none⟩ : Addr)) x38 0 Aa24 cc25 (([] : List Int) ++ (l0.take (mnn (l0.length : Int) 12 : Int).toNat)) (t49, t50) _ hgks48 (fun wz hkz => (Rd.of_own ((hstks48 _ hkz).up 0))) hx51) ?_
        rintro e wd52 ⟨rfl, hw53⟩
        refine ⟨_, rfl, ?_⟩
        replace hw := hbkks48 _ _ hw53
        replace hw : St [] w0 _ [own 68 eSmemory_Memory (some (⟨g43, 0, none⟩ : Addr)) 1 [t50], own 23 (eI .u32) Aa24 cc25 (([] : List Int) ++ (l0.take (mnn (l0.length : Int) 12 : Int).toNat))] := hw
        intro a hs1
        replace hs : Slots a 89 [(0, .slice A0 l0.length c0), (1, .int .u32 a1), (6, .slice Aa24 (([] : List Int) ++ (l0.take (mnn (l0.length : Int) 12 : Int).toNat)).length cc25), (7, .pointer (some (⟨g43, 0, none⟩ : Addr))), (33, .bool false), (36, .int .i64 t49)] := hs1.keep [0, 1, 6, 7, 33, 36] (by kernel_rfl)
        clear hs1
        refine go_pvs 14 16 [0, 1, 6, 7, 38] hs (L' := [(0, .slice A0 l0.length c0), (1, .int .u32 a1), (6, .slice Aa24 (([] : List Int) ++ (l0.take (mnn (l0.length : Int) 12 : Int).toNat)).length cc25), (7, .pointer (some (⟨g43, 0, none⟩ : Addr))), (38, .bool (t49 != 0))]) (by kernel_rfl) ?_ rfl
        clear hs; intro a hs
        refine go_end (by kernel_rfl) ?_
        replace hw := hw.up 1
        replace hw := hw.up 1
        replace hw := hw.only 2
        exact hJ2 t50 (t49 != 0) _ _ (hs.keep [0, 1, 6, 7, 38] (by kernel_rfl)) hw H
      · replace H := ite_f H (bne_iff_ne.1 hb47)
        rw [hb47] at hs
        refine go_pvs 11 16 [0, 1, 6, 7, 38] hs (L' := [(0, .slice A0 l0.length c0), (1, .int .u32 a1), (6, .slice Aa24 (([] : List Int) ++ (l0.take (mnn (l0.length : Int) 12 : Int).toNat)).length cc25), (7, .pointer (some (⟨g43, 0, none⟩ : Addr))), (38, .bool true)]) (by kernel_rfl) ?_ rfl
        clear hs; intro a hs
        refine go_end (by kernel_rfl) ?_
        replace hw := hw.up 1
        replace hw := hw.up 1
        replace hw := hw.only 2
        exact hJ2 x38 true _ _ (hs.keep [0, 1, 6, 7, 38] (by kernel_rfl)) hw H
    · replace H := ite_f H (ff (nt hb46))
      rw [hb46] at hs
      refine go_pvs 3 16 [0, 1, 6, 7, 38] hs (L' := [(0, .slice A0 l0.length c0), (1, .int .u32 a1), (6, .slice Aa24 (([] : List Int) ++ (l0.take (mnn (l0.length : Int) 12 : Int).toNat)).length cc25), (7, .pointer (some (⟨g43, 0, none⟩ : Addr))), (38, .bool true)]) (by kernel_rfl) ?_ rfl
      clear hs; intro a hs
      refine go_end (by kernel_rfl) ?_
      replace hw := hw.up 1
      replace hw := hw.up 1
      replace hw := hw.only 2
      exact hJ2 x38 true _ _ (hs.keep [0, 1, 6, 7, 38] (by kernel_rfl)) hw H

end Go.Proofs.Ytpbfjcpndmmgoaa.T05
