/- YtpbfjcpndmmgoaaT05: Go functions told as plain ones, each with a proof that its call comes to what is told, part 3. Condition of each: that the plain function comes to a value. -/
import Derived.Test.YtpbfjcpndmmgoaaT05b
namespace Go.Proofs.Ytpbfjcpndmmgoaa.T05
open Go Go.RowKit Go.Proofs.Ytpbfjcpndmmgoaa.E
set_option linter.unusedVariables false
set_option linter.unusedSimpArgs false

/-! rivet/rivetlaw05.MemoryTraps: function 12 -/
noncomputable def rivetlaw05_MemoryTraps.j1 : Option Bool := some false
noncomputable def rivetlaw05_MemoryTraps.j6 (v159 : Smemory_Memory) (v160 : Bool) : Option Bool := some v160
noncomputable def rivetlaw05_MemoryTraps.j5 (v48 : Smemory_Memory) (a1 : Int) (v55 : Int) (l0 : List Int) (v61 : Int) : Option Bool := ((memory_Memory_Word v48 a1).bind fun ⟨t64, t65, t66⟩ => (((memory_Memory_Byte t66 a1).bind fun ⟨t72, t73, t74⟩ => (((memory_Memory_SetWord t74 a1 t64).bind fun ⟨t80, t81⟩ => (((memory_Memory_SetByte t81 a1 t72).bind fun ⟨t87, t88⟩ => ((if t65 = v61 then (if t80 = v61 then (if t73 = v55 then (if t87 = v55 then (if t65 = 0 then (if t73 = 0 then ((memory_Memory_Words t88).bind fun ⟨t146, t147⟩ => (((rivetref05_Same t146 (l0.take (mnn (l0.length : Int) 12 : Int).toNat)).bind fun t155 => (rivetlaw05_MemoryTraps.j6 t147 t155)))) else (if t72 = 0 then ((memory_Memory_Words t88).bind fun ⟨t132, t133⟩ => (((rivetref05_Same t132 (l0.take (mnn (l0.length : Int) 12 : Int).toNat)).bind fun t141 => (rivetlaw05_MemoryTraps.j6 t133 t141)))) else rivetlaw05_MemoryTraps.j6 t88 false)) else (if t64 = 0 then (if t73 = 0 then ((memory_Memory_Words t88).bind fun ⟨t116, t117⟩ => (((rivetref05_Same t116 (l0.take (mnn (l0.length : Int) 12 : Int).toNat)).bind fun t125 => (rivetlaw05_MemoryTraps.j6 t117 t125)))) else (if t72 = 0 then ((memory_Memory_Words t88).bind fun ⟨t102, t103⟩ => (((rivetref05_Same t102 (l0.take (mnn (l0.length : Int) 12 : Int).toNat)).bind fun t111 => (rivetlaw05_MemoryTraps.j6 t103 t111)))) else rivetlaw05_MemoryTraps.j6 t88 false)) else rivetlaw05_MemoryTraps.j6 t88 false)) else rivetlaw05_MemoryTraps.j6 t88 false) else rivetlaw05_MemoryTraps.j6 t88 false) else rivetlaw05_MemoryTraps.j6 t88 false) else rivetlaw05_MemoryTraps.j6 t88 false)))))))))
noncomputable def rivetlaw05_MemoryTraps.j4 (a1 : Int) (v48 : Smemory_Memory) (l0 : List Int) (v55 : Int) : Option Bool := (if (a1.tmod 4) = 0 then rivetlaw05_MemoryTraps.j5 v48 a1 v55 l0 v55 else rivetlaw05_MemoryTraps.j5 v48 a1 v55 l0 4)
noncomputable def rivetlaw05_MemoryTraps.j3 (a1 : Int) (l0 : List Int) (v48 : Smemory_Memory) : Option Bool := (if (w64 a1) ≥ (w64 (4 * ((l0.take (mnn (l0.length : Int) 12 : Int).toNat).length : Int))) then rivetlaw05_MemoryTraps.j4 a1 v48 l0 3 else rivetlaw05_MemoryTraps.j4 a1 v48 l0 0)
noncomputable def rivetlaw05_MemoryTraps.j2 (a1 : Int) (l0 : List Int) (v43 : Smemory_Memory) (v44 : Bool) : Option Bool := (if v44 = true then some false else rivetlaw05_MemoryTraps.j3 a1 l0 v43)
noncomputable def rivetlaw05_MemoryTraps (l0 : List Int) (a1 : Int) : Option Bool := ((rivetlaw05_shown).bind fun t4 => ((if 0 ≤ (mnn (l0.length : Int) 12) ∧ (mnn (l0.length : Int) 12) ≤ (l0.length : Int) then ((memory_New ((l0.take (mnn (l0.length : Int) 12 : Int).toNat).length : Int)).bind fun ⟨t20, t21⟩ => ((match t20 with | none => (if t4 = true then rivetlaw05_MemoryTraps.j1 else rivetlaw05_MemoryTraps.j1) | some x27 => (if t4 = true then (if t21 = 0 then ((memory_Memory_Place x27 0 (l0.take (mnn (l0.length : Int) 12 : Int).toNat)).bind fun ⟨t38, t39⟩ => (rivetlaw05_MemoryTraps.j2 a1 l0 t39 (t38 != 0))) else rivetlaw05_MemoryTraps.j2 a1 l0 x27 true) else rivetlaw05_MemoryTraps.j2 a1 l0 x27 true)))) else none)))
set_option maxRecDepth 100000 in
set_option maxHeartbeats 4000000 in
theorem rivetlaw05_MemoryTraps.calls (A0 : Option Addr) (c0 : Nat) (l0 : List Int) (a1 : Int) (r : Bool) (w0 : World) (hr0 : Rd w0 (eI .u32) A0 c0 l0) (H : rivetlaw05_MemoryTraps l0 a1 = some r) :
    Calls Try.prog 12 #[.slice A0 l0.length c0, .int .u32 a1] w0 fun e w' => e = .returned (.bool r) ∧ St [] w0 w' [] := by
  have hw : St [] w0 w0 [] := St.nil w0
  unfold rivetlaw05_MemoryTraps at H
  refine go_fn Try.func12 rfl 114 Try.ntmps12 [(0, .slice A0 l0.length c0), (1, .int .u32 a1)] (by kernel_rfl) rfl ?_
  intro a hs
  refine go_seq_k fun K1 hK1 => ?_
  refine go_region ?_
  refine go_pvs 0 1 [0, 1] hs (L' := [(0, .slice A0 l0.length c0), (1, .int .u32 a1)]) (by kernel_rfl) ?_ rfl
  clear hs; intro a hs
  refine go_end (by kernel_rfl) ?_
  refine hK1 _ _ ?_
  refine go_seq_k fun K2 hK2 => ?_
  refine go_region ?_
  obtain ⟨t4, hx5, H⟩ := bind_some H
  refine go_call hs (op := (Op.call { callee := (Callee.value (Operand.func 13)), args := #[], argTypes := #[] })) (ty := 4) (dst := some 18) (g := none) (by kernel_rfl) (by kernel_rfl) (by kernel_rfl) (f := 13) (args := #[]) (by kernel_rfl) (rivetlaw05_shown.calls t4 _ hx5) ?_
  rintro e wd6 ⟨rfl, hw7⟩
  refine ⟨_, rfl, ?_⟩
  replace hw := hw.call hw7
  intro a hs1
  replace hs : Slots a 114 [(0, .slice A0 l0.length c0), (1, .int .u32 a1), (18, .bool t4)] := hs1.keep [0, 1, 18] (by kernel_rfl)
  clear hs1
  refine go_pvs 1 2 [0, 1, 5] hs (L' := [(0, .slice A0 l0.length c0), (1, .int .u32 a1), (5, .bool t4)]) (by kernel_rfl) ?_ rfl
  clear hs; intro a hs
  refine go_end (by kernel_rfl) ?_
  refine hK2 _ _ ?_
  refine go_seq_k fun K8 hK8 => ?_
  refine go_region ?_
  refine go_pvs 0 1 [1, 5, 19] hs (L' := [(1, .int .u32 a1), (5, .bool t4), (19, .slice A0 l0.length c0)]) (by kernel_rfl) ?_ rfl
  clear hs; intro a hs
  refine go_inline_k hs (op := (Op.call { callee := (Callee.value (Operand.func 14)), args := #[(Operand.tmp 19)], argTypes := #[22] })) (ty := 22) (dst := some 20) (g := none) (by kernel_rfl) (by kernel_rfl) (by kernel_rfl) (f := 14) (args := #[.slice A0 l0.length c0]) (by kernel_rfl) (fun KR9 hKR9 => ?_)
  refine go_fn Try.func14 rfl 8 Try.ntmps14 [(0, .slice A0 l0.length c0)] (by kernel_rfl) rfl ?_
  clear hs; intro a hs
  refine go_seq_k fun K10 hK10 => ?_
  refine go_region ?_
  refine go_pvs 0 1 [0] hs (L' := [(0, .slice A0 l0.length c0)]) (by kernel_rfl) ?_ rfl
  clear hs; intro a hs
  refine go_end (by kernel_rfl) ?_
  refine hK10 _ _ ?_
  refine go_seq_k fun K11 hK11 => ?_
  refine go_region ?_
  refine go_pvs 0 4 [3, 6] hs (L' := [(3, .slice A0 l0.length c0), (6, .int .i64 (mnn (l0.length : Int) 12))]) (by kernel_rfl) ?_ rfl
  clear hs; intro a hs
  obtain ⟨hp12, H⟩ := ite_only H
  obtain ⟨Aa13, cc14, hx15, hc16⟩ := c_hi (P := Try.prog) (L := [(3, .slice A0 l0.length c0), (6, .int .i64 (mnn (l0.length : Int) 12))]) (ty := 22) (E := (eI .u32)) (T := 23) (t := 22) (x := (Operand.tmp 3)) (y := (Operand.tmp 6)) (k := .i64) (by kernel_rfl) (by kernel_rfl) (hr0.old hw) (by kernel_rfl) (by kernel_rfl) hp12.1 hp12.2
  refine go_run hs (op := (Op.slice 22 (Operand.tmp 3) none (some (Operand.tmp 6)) none)) (ty := 22) (dst := some 7) (g := none) (by kernel_rfl) (by kernel_rfl) (by kernel_rfl) hx15 [7] (L' := [(7, .slice Aa13 (l0.take (mnn (l0.length : Int) 12 : Int).toNat).length cc14)]) (by kernel_rfl) ?_
  clear hs; intro a hs
  refine go_pvs 5 6 [2] hs (L' := [(2, .slice Aa13 (l0.take (mnn (l0.length : Int) 12 : Int).toNat).length cc14)]) (by kernel_rfl) ?_ rfl
  clear hs; intro a hs
  refine go_end (by kernel_rfl) ?_
  refine hK11 _ _ ?_
  refine wp_ret ?_
  refine ret1 (t := 2) (v := .slice Aa13 (l0.take (mnn (l0.length : Int) 12 : Int).toNat).length cc14) hs (by kernel_rfl) (by kernel_rfl) ?_
  refine ⟨_, rfl, ?_⟩
  refine hKR9 _ _ ?_
  intro a hs1
  have hs : Slots a _ [(1, .int .u32 a1), (5, .bool t4), (20, .slice Aa13 (l0.take (mnn (l0.length : Int) 12 : Int).toNat).length cc14)] := hs1.keep [1, 5, 20] (by kernel_rfl)
  clear hs1
  refine go_pvs 2 3 [1, 5, 6] hs (L' := [(1, .int .u32 a1), (5, .bool t4), (6, .slice Aa13 (l0.take (mnn (l0.length : Int) 12 : Int).toNat).length cc14)]) (by kernel_rfl) ?_ rfl
  clear hs; intro a hs
  refine go_end (by kernel_rfl) ?_
  refine hK8 _ _ ?_
  refine go_seq_k fun K18 hK18 => ?_
  refine go_region ?_
  refine go_pvs 0 2 [1, 5, 6, 23] hs (L' := [(1, .int .u32 a1), (5, .bool t4), (6, .slice Aa13 (l0.take (mnn (l0.length : Int) 12 : Int).toNat).length cc14), (23, .int .i64 ((l0.take (mnn (l0.length : Int) 12 : Int).toNat).length : Int))]) (by kernel_rfl) ?_ rfl
  clear hs; intro a hs
  obtain ⟨⟨t20, t21⟩, hx22, H⟩ := bind_some H
  refine go_call hs (op := (Op.call { callee := (Callee.value (Operand.func 15)), args := #[(Operand.tmp 23)], argTypes := #[3] })) (ty := 28) (dst := some 24) (g := none) (by kernel_rfl) (by kernel_rfl) (by kernel_rfl) (f := 15) (args := #[.int .i64 ((l0.take (mnn (l0.length : Int) 12 : Int).toNat).length : Int)]) (by kernel_rfl) (memory_New.calls ((l0.take (mnn (l0.length : Int) 12 : Int).toNat).length : Int) (t20, t21) _ hx22) ?_
  rintro e wd24 ⟨Aa23, rfl, hw25⟩
  refine ⟨_, rfl, ?_⟩
  replace hw := hw.call hw25
  intro a hs1
  replace hs : Slots a 114 [(1, .int .u32 a1), (5, .bool t4), (6, .slice Aa13 (l0.take (mnn (l0.length : Int) 12 : Int).toNat).length cc14), (24, .tuple #[.pointer Aa23, .int .i64 t21])] := hs1.keep [1, 5, 6, 24] (by kernel_rfl)
  clear hs1
  rcases t20 with _ | x27
  · obtain ⟨hAg, hwg⟩ := St.oM_none hw
    clear hw; subst hAg; have hw := hwg; clear hwg
    refine go_pvs 3 8 [1, 5, 6, 7, 8] hs (L' := [(1, .int .u32 a1), (5, .bool t4), (6, .slice Aa13 (l0.take (mnn (l0.length : Int) 12 : Int).toNat).length cc14), (7, .pointer none), (8, .int .i64 t21)]) (by kernel_rfl) ?_ rfl
    clear hs; intro a hs
    refine go_end (by kernel_rfl) ?_
    refine hK18 _ _ ?_
    refine go_seq_k fun K28 hK28 => ?_
    refine go_seq_k fun K29 hK29 => ?_
    have hJ1 : ∀ (a : Act) (w : World), Slots a 114 [(1, .int .u32 a1), (6, .slice Aa13 (l0.take (mnn (l0.length : Int) 12 : Int).toNat).length cc14), (7, .pointer none), (42, .bool true)] → St [] w0 w [] → rivetlaw05_MemoryTraps.j1 = some r → K29 a w := by
      intro a w hs hw H
      unfold rivetlaw05_MemoryTraps.j1 at H
      refine hK29 _ _ ?_
      refine go_cond hs true (by kernel_rfl) (fun hc => ?_) (fun hc => ?_)
      · skip
        refine go_seq_k fun K31 hK31 => ?_
        refine go_region ?_
        refine go_pvs 0 1 [4] hs (L' := [(4, .bool false)]) (by kernel_rfl) ?_ rfl
        clear hs; intro a hs
        refine go_end (by kernel_rfl) ?_
        refine hK31 _ _ ?_
        refine wp_ret ?_
        refine th_ret ?_
        obtain rfl := Option.some.inj H
        refine ret1 (t := 4) (v := .bool false) hs (by kernel_rfl) (by kernel_rfl) ?_
        exact ⟨rfl, hw.only 0⟩
      · cases hc
    refine go_region ?_
    refine go_pvs 0 3 [1, 6, 7, 8, 29] hs (L' := [(1, .int .u32 a1), (6, .slice Aa13 (l0.take (mnn (l0.length : Int) 12 : Int).toNat).length cc14), (7, .pointer none), (8, .int .i64 t21), (29, .bool (!t4))]) (by kernel_rfl) ?_ rfl
    clear hs; intro a hs
    cases hb30 : (!t4)
    · replace H := ite_t H (nf hb30)
      rw [hb30] at hs
      refine go_pvs 3 16 [1, 6, 7, 42] hs (L' := [(1, .int .u32 a1), (6, .slice Aa13 (l0.take (mnn (l0.length : Int) 12 : Int).toNat).length cc14), (7, .pointer none), (42, .bool true)]) (by kernel_rfl) ?_ rfl
      clear hs; intro a hs
      refine go_end (by kernel_rfl) ?_
      replace hw := hw.only 0
      exact hJ1 _ _ (hs.keep [1, 6, 7, 42] (by kernel_rfl)) hw H
    · replace H := ite_f H (ff (nt hb30))
      rw [hb30] at hs
      refine go_pvs 3 16 [1, 6, 7, 42] hs (L' := [(1, .int .u32 a1), (6, .slice Aa13 (l0.take (mnn (l0.length : Int) 12 : Int).toNat).length cc14), (7, .pointer none), (42, .bool true)]) (by kernel_rfl) ?_ rfl
      clear hs; intro a hs
      refine go_end (by kernel_rfl) ?_
      replace hw := hw.only 0
      exact hJ1 _ _ (hs.keep [1, 6, 7, 42] (by kernel_rfl)) hw H
  · replace hw : St [] w0 _ [mSmemory_Memory Aa23 x27] := hw
    obtain ⟨g32, hAg, hwg⟩ := St.one hw
    clear hw; subst hAg; have hw := hwg; clear hwg
    refine go_pvs 3 8 [1, 5, 6, 7, 8] hs (L' := [(1, .int .u32 a1), (5, .bool t4), (6, .slice Aa13 (l0.take (mnn (l0.length : Int) 12 : Int).toNat).length cc14), (7, .pointer (some (⟨g32, 0, none⟩ : Addr))), (8, .int .i64 t21)]) (by kernel_rfl) ?_ rfl
    clear hs; intro a hs
    refine go_end (by kernel_rfl) ?_
    refine hK18 _ _ ?_
    refine go_seq_k fun K33 hK33 => ?_
    have hJ3 : ∀ (v48 : Smemory_Memory) (a : Act) (w : World), Slots a 114 [(1, .int .u32 a1), (6, .slice Aa13 (l0.take (mnn (l0.length : Int) 12 : Int).toNat).length cc14), (7, .pointer (some (⟨g32, 0, none⟩ : Addr)))] → St [] w0 w [own 68 eSmemory_Memory (some (⟨g32, 0, none⟩ : Addr)) 1 [v48]] → rivetlaw05_MemoryTraps.j3 a1 l0 v48 = some r → K33 a w := by
      intro v48 a w hs hw H
      unfold rivetlaw05_MemoryTraps.j3 at H
      refine hK33 _ _ ?_
      refine go_seq_k fun K49 hK49 => ?_
      refine go_region ?_
      refine go_pvs 0 7 [1, 6, 7, 9] hs (L' := [(1, .int .u32 a1), (6, .slice Aa13 (l0.take (mnn (l0.length : Int) 12 : Int).toNat).length cc14), (7, .pointer (some (⟨g32, 0, none⟩ : Addr))), (9, .bool (decide ((w64 a1) ≥ (w64 (4 * ((l0.take (mnn (l0.length : Int) 12 : Int).toNat).length : Int))))))]) (by kernel_rfl) ?_ rfl
      clear hs; intro a hs
      refine go_end (by kernel_rfl) ?_
      refine hK49 _ _ ?_
      refine go_seq_k fun K50 hK50 => ?_
      refine go_region ?_
      refine go_pvs 0 1 [1, 6, 7, 9, 10] hs (L' := [(1, .int .u32 a1), (6, .slice Aa13 (l0.take (mnn (l0.length : Int) 12 : Int).toNat).length cc14), (7, .pointer (some (⟨g32, 0, none⟩ : Addr))), (9, .bool (decide ((w64 a1) ≥ (w64 (4 * ((l0.take (mnn (l0.length : Int) 12 : Int).toNat).length : Int)))))), (10, .int .i64 0)]) (by kernel_rfl) ?_ rfl
      clear hs; intro a hs
      refine go_end (by kernel_rfl) ?_
      refine hK50 _ _ ?_
      refine go_seq_k fun K51 hK51 => ?_
      have hJ4 : ∀ (v55 : Int) (a : Act) (w : World), Slots a 114 [(1, .int .u32 a1), (6, .slice Aa13 (l0.take (mnn (l0.length : Int) 12 : Int).toNat).length cc14), (7, .pointer (some (⟨g32, 0, none⟩ : Addr))), (10, .int .i64 v55)] → St [] w0 w [own 68 eSmemory_Memory (some (⟨g32, 0, none⟩ : Addr)) 1 [v48]] → rivetlaw05_MemoryTraps.j4 a1 v48 l0 v55 = some r → K51 a w := by
        intro v55 a w hs hw H
        unfold rivetlaw05_MemoryTraps.j4 at H
        refine hK51 _ _ ?_
        refine go_seq_k fun K56 hK56 => ?_
        refine go_region ?_
        refine go_pvs 0 2 [1, 6, 7, 10, 11] hs (L' := [(1, .int .u32 a1), (6, .slice Aa13 (l0.take (mnn (l0.length : Int) 12 : Int).toNat).length cc14), (7, .pointer (some (⟨g32, 0, none⟩ : Addr))), (10, .int .i64 v55), (11, .int .i64 v55)]) (by kernel_rfl) ?_ rfl
        clear hs; intro a hs
        refine go_end (by kernel_rfl) ?_
        refine hK56 _ _ ?_
        refine go_seq_k fun K57 hK57 => ?_
        have hJ5 : ∀ (v61 : Int) (a : Act) (w : World), Slots a 114 [(1, .int .u32 a1), (6, .slice Aa13 (l0.take (mnn (l0.length : Int) 12 : Int).toNat).length cc14), (7, .pointer (some (⟨g32, 0, none⟩ : Addr))), (10, .int .i64 v61), (11, .int .i64 v55)] → St [] w0 w [own 68 eSmemory_Memory (some (⟨g32, 0, none⟩ : Addr)) 1 [v48]] → rivetlaw05_MemoryTraps.j5 v48 a1 v55 l0 v61 = some r → K57 a w := by
          intro v61 a w hs hw H
          unfold rivetlaw05_MemoryTraps.j5 at H
          refine hK57 _ _ ?_
          refine go_seq_k fun K62 hK62 => ?_
          refine go_region ?_
          refine go_pvs 0 2 [1, 6, 7, 10, 11, 55, 56] hs (L' := [(1, .int .u32 a1), (6, .slice Aa13 (l0.take (mnn (l0.length : Int) 12 : Int).toNat).length cc14), (7, .pointer (some (⟨g32, 0, none⟩ : Addr))), (10, .int .i64 v61), (11, .int .i64 v55), (55, .pointer (some (⟨g32, 0, none⟩ : Addr))), (56, .int .u32 a1)]) (by kernel_rfl) ?_ rfl
          clear hs; intro a hs
          obtain ⟨ks63, hgks63, hstks63, hbkks63⟩ := hw.lend 1
          obtain ⟨⟨t64, t65, t66⟩, hx67, H⟩ := bind_some H
          refine go_call hs (op := (Op.call { callee := (Callee.value (Operand.func 29)), args := #[(Operand.tmp 55), (Operand.tmp 56)], argTypes := #[26, 23] })) (ty := 58) (dst := some 57) (g := none) (by kernel_rfl) (by kernel_rfl) (by kernel_rfl) (f := 29) (args := #[.pointer (some (⟨g32, 0, none⟩ : Addr)), .int .u32 a1]) (by kernel_rfl) (memory_Memory_Word.calls ks63 (some (⟨g32, 0, none⟩ : Addr)) v48 a1 (t64, t65, t66) _ hgks63 hx67) ?_
          rintro e wd68 ⟨rfl, hw69⟩
          refine ⟨_, rfl, ?_⟩
          replace hw := hbkks63 _ _ hw69
          replace hw : St [] w0 _ [own 68 eSmemory_Memory (some (⟨g32, 0, none⟩ : Addr)) 1 [t66]] := hw
          intro a hs1
          replace hs : Slots a 114 [(1, .int .u32 a1), (6, .slice Aa13 (l0.take (mnn (l0.length : Int) 12 : Int).toNat).length cc14), (7, .pointer (some (⟨g32, 0, none⟩ : Addr))), (10, .int .i64 v61), (11, .int .i64 v55), (57, .tuple #[.int .u32 t64, .int .i64 t65])] := hs1.keep [1, 6, 7, 10, 11, 57] (by kernel_rfl)
          clear hs1
          refine go_pvs 3 8 [1, 6, 7, 10, 11, 12, 13] hs (L' := [(1, .int .u32 a1), (6, .slice Aa13 (l0.take (mnn (l0.length : Int) 12 : Int).toNat).length cc14), (7, .pointer (some (⟨g32, 0, none⟩ : Addr))), (10, .int .i64 v61), (11, .int .i64 v55), (12, .int .u32 t64), (13, .int .i64 t65)]) (by kernel_rfl) ?_ rfl
          clear hs; intro a hs
          refine go_end (by kernel_rfl) ?_
          refine hK62 _ _ ?_
          refine go_seq_k fun K70 hK70 => ?_
          refine go_region ?_
          refine go_pvs 0 2 [1, 6, 7, 10, 11, 12, 13, 61, 62] hs (L' := [(1, .int .u32 a1), (6, .slice Aa13 (l0.take (mnn (l0.length : Int) 12 : Int).toNat).length cc14), (7, .pointer (some (⟨g32, 0, none⟩ : Addr))), (10, .int .i64 v61), (11, .int .i64 v55), (12, .int .u32 t64), (13, .int .i64 t65), (61, .pointer (some (⟨g32, 0, none⟩ : Addr))), (62, .int .u32 a1)]) (by kernel_rfl) ?_ rfl
          clear hs; intro a hs
          obtain ⟨ks71, hgks71, hstks71, hbkks71⟩ := hw.lend 1
          obtain ⟨⟨t72, t73, t74⟩, hx75, H⟩ := bind_some H
          refine go_call hs (op := (Op.call { callee := (Callee.value (Operand.func 31)), args := #[(Operand.tmp 61), (Operand.tmp 62)], argTypes := #[26, 23] })) (ty := 60) (dst := some 63) (g := none) (by kernel_rfl) (by kernel_rfl) (by kernel_rfl) (f := 31) (args := #[.pointer (some (⟨g32, 0, none⟩ : Addr)), .int .u32 a1]) (by kernel_rfl) (memory_Memory_Byte.calls ks71 (some (⟨g32, 0, none⟩ : Addr)) t66 a1 (t72, t73, t74) _ hgks71 hx75) ?_
          rintro e wd76 ⟨rfl, hw77⟩
          refine ⟨_, rfl, ?_⟩
          replace hw := hbkks71 _ _ hw77
          replace hw : St [] w0 _ [own 68 eSmemory_Memory (some (⟨g32, 0, none⟩ : Addr)) 1 [t74]] := hw
          intro a hs1
          replace hs : Slots a 114 [(1, .int .u32 a1), (6, .slice Aa13 (l0.take (mnn (l0.length : Int) 12 : Int).toNat).length cc14), (7, .pointer (some (⟨g32, 0, none⟩ : Addr))), (10, .int .i64 v61), (11, .int .i64 v55), (12, .int .u32 t64), (13, .int .i64 t65), (63, .tuple #[.int .u8 t72, .int .i64 t73])] := hs1.keep [1, 6, 7, 10, 11, 12, 13, 63] (by kernel_rfl)
          clear hs1
          refine go_pvs 3 8 [1, 6, 7, 10, 11, 12, 13, 14, 15] hs (L' := [(1, .int .u32 a1), (6, .slice Aa13 (l0.take (mnn (l0.length : Int) 12 : Int).toNat).length cc14), (7, .pointer (some (⟨g32, 0, none⟩ : Addr))), (10, .int .i64 v61), (11, .int .i64 v55), (12, .int .u32 t64), (13, .int .i64 t65), (14, .int .u8 t72), (15, .int .i64 t73)]) (by kernel_rfl) ?_ rfl
          clear hs; intro a hs
          refine go_end (by kernel_rfl) ?_
          refine hK70 _ _ ?_
          refine go_seq_k fun K78 hK78 => ?_
          refine go_region ?_
          refine go_pvs 0 3 [1, 6, 7, 10, 11, 12, 13, 14, 15, 66, 67, 68] hs (L' := [(1, .int .u32 a1), (6, .slice Aa13 (l0.take (mnn (l0.length : Int) 12 : Int).toNat).length cc14), (7, .pointer (some (⟨g32, 0, none⟩ : Addr))), (10, .int .i64 v61), (11, .int .i64 v55), (12, .int .u32 t64), (13, .int .i64 t65), (14, .int .u8 t72), (15, .int .i64 t73), (66, .pointer (some (⟨g32, 0, none⟩ : Addr))), (67, .int .u32 a1), (68, .int .u32 t64)]) (by kernel_rfl) ?_ rfl
          clear hs; intro a hs
          obtain ⟨ks79, hgks79, hstks79, hbkks79⟩ := hw.lend 1
          obtain ⟨⟨t80, t81⟩, hx82, H⟩ := bind_some H
          refine go_call hs (op := (Op.call { callee := (Callee.value (Operand.func 33)), args := #[(Operand.tmp 66), (Operand.tmp 67), (Operand.tmp 68)], argTypes := #[26, 23, 23] })) (ty := 3) (dst := some 69) (g := none) (by kernel_rfl) (by kernel_rfl) (by kernel_rfl) (f := 33) (args := #[.pointer (some (⟨g32, 0, none⟩ : Addr)), .int .u32 a1, .int .u32 t64]) (by kernel_rfl) (memory_Memory_SetWord.calls ks79 (some (⟨g32, 0, none⟩ : Addr)) t74 a1 t64 (t80, t81) _ hgks79 hx82) ?_
          rintro e wd83 ⟨rfl, hw84⟩
          refine ⟨_, rfl, ?_⟩
          replace hw := hbkks79 _ _ hw84
          replace hw : St [] w0 _ [own 68 eSmemory_Memory (some (⟨g32, 0, none⟩ : Addr)) 1 [t81]] := hw
          intro a hs1
          replace hs : Slots a 114 [(1, .int .u32 a1), (6, .slice Aa13 (l0.take (mnn (l0.length : Int) 12 : Int).toNat).length cc14), (7, .pointer (some (⟨g32, 0, none⟩ : Addr))), (10, .int .i64 v61), (11, .int .i64 v55), (12, .int .u32 t64), (13, .int .i64 t65), (14, .int .u8 t72), (15, .int .i64 t73), (69, .int .i64 t80)] := hs1.keep [1, 6, 7, 10, 11, 12, 13, 14, 15, 69] (by kernel_rfl)
          clear hs1
          refine go_pvs 4 5 [1, 6, 7, 10, 11, 12, 13, 14, 15, 16] hs (L' := [(1, .int .u32 a1), (6, .slice Aa13 (l0.take (mnn (l0.length : Int) 12 : Int).toNat).length cc14), (7, .pointer (some (⟨g32, 0, none⟩ : Addr))), (10, .int .i64 v61), (11, .int .i64 v55), (12, .int .u32 t64), (13, .int .i64 t65), (14, .int .u8 t72), (15, .int .i64 t73), (16, .int .i64 t80)]) (by kernel_rfl) ?_ rfl
          clear hs; intro a hs
          refine go_end (by kernel_rfl) ?_
          refine hK78 _ _ ?_
          refine go_seq_k fun K85 hK85 => ?_
          refine go_region ?_
          refine go_pvs 0 3 [6, 7, 10, 11, 12, 13, 14, 15, 16, 70, 71, 72] hs (L' := [(6, .slice Aa13 (l0.take (mnn (l0.length : Int) 12 : Int).toNat).length cc14), (7, .pointer (some (⟨g32, 0, none⟩ : Addr))), (10, .int .i64 v61), (11, .int .i64 v55), (12, .int .u32 t64), (13, .int .i64 t65), (14, .int .u8 t72), (15, .int .i64 t73), (16, .int .i64 t80), (70, .pointer (some (⟨g32, 0, none⟩ : Addr))), (71, .int .u32 a1), (72, .int .u8 t72)]) (by kernel_rfl) ?_ rfl
          clear hs; intro a hs
          obtain ⟨ks86, hgks86, hstks86, hbkks86⟩ := hw.lend 1
          obtain ⟨⟨t87, t88⟩, hx89, H⟩ := bind_some H
          refine go_call hs (op := (Op.call { callee := (Callee.value (Operand.func 35)), args := #[(Operand.tmp 70), (Operand.tmp 71), (Operand.tmp 72)], argTypes := #[26, 23, 5] })) (ty := 3) (dst := some 73) (g := none) (by kernel_rfl) (by kernel_rfl) (by kernel_rfl) (f := 35) (args := #[.pointer (some (⟨g32, 0, none⟩ : Addr)), .int .u32 a1, .int .u8 t72]) (by kernel_rfl) (memory_Memory_SetByte.calls ks86 (some (⟨g32, 0, none⟩ : Addr)) t81 a1 t72 (t87, t88) _ hgks86 hx89) ?_
          rintro e wd90 ⟨rfl, hw91⟩
          refine ⟨_, rfl, ?_⟩
          replace hw := hbkks86 _ _ hw91
          replace hw : St [] w0 _ [own 68 eSmemory_Memory (some (⟨g32, 0, none⟩ : Addr)) 1 [t88]] := hw
          intro a hs1
          replace hs : Slots a 114 [(6, .slice Aa13 (l0.take (mnn (l0.length : Int) 12 : Int).toNat).length cc14), (7, .pointer (some (⟨g32, 0, none⟩ : Addr))), (10, .int .i64 v61), (11, .int .i64 v55), (12, .int .u32 t64), (13, .int .i64 t65), (14, .int .u8 t72), (15, .int .i64 t73), (16, .int .i64 t80), (73, .int .i64 t87)] := hs1.keep [6, 7, 10, 11, 12, 13, 14, 15, 16, 73] (by kernel_rfl)
          clear hs1
          refine go_pvs 4 5 [6, 7, 10, 11, 12, 13, 14, 15, 16, 17] hs (L' := [(6, .slice Aa13 (l0.take (mnn (l0.length : Int) 12 : Int).toNat).length cc14), (7, .pointer (some (⟨g32, 0, none⟩ : Addr))), (10, .int .i64 v61), (11, .int .i64 v55), (12, .int .u32 t64), (13, .int .i64 t65), (14, .int .u8 t72), (15, .int .i64 t73), (16, .int .i64 t80), (17, .int .i64 t87)]) (by kernel_rfl) ?_ rfl
          clear hs; intro a hs
          refine go_end (by kernel_rfl) ?_
          refine hK85 _ _ ?_
          refine go_seq_k fun K92 hK92 => ?_
          have hJ6 : ∀ (v159 : Smemory_Memory) (v160 : Bool) (a : Act) (w : World), Slots a 114 [(4, .bool v160)] → St [] w0 w [own 68 eSmemory_Memory (some (⟨g32, 0, none⟩ : Addr)) 1 [v159]] → rivetlaw05_MemoryTraps.j6 v159 v160 = some r → K92 a w := by
            intro v159 v160 a w hs hw H
            unfold rivetlaw05_MemoryTraps.j6 at H
            refine hK92 _ _ ?_
            refine wp_ret ?_
            obtain rfl := Option.some.inj H
            refine ret1 (t := 4) (v := .bool v160) hs (by kernel_rfl) (by kernel_rfl) ?_
            exact ⟨rfl, hw.only 0⟩
          refine go_region ?_
          refine go_pvs 0 4 [6, 7, 10, 11, 12, 13, 14, 15, 16, 17, 77] hs (L' := [(6, .slice Aa13 (l0.take (mnn (l0.length : Int) 12 : Int).toNat).length cc14), (7, .pointer (some (⟨g32, 0, none⟩ : Addr))), (10, .int .i64 v61), (11, .int .i64 v55), (12, .int .u32 t64), (13, .int .i64 t65), (14, .int .u8 t72), (15, .int .i64 t73), (16, .int .i64 t80), (17, .int .i64 t87), (77, .bool (t65 == v61))]) (by kernel_rfl) ?_ rfl
          clear hs; intro a hs
          cases hb93 : (t65 == v61)
          · replace H := ite_f H (beq_eq_false_iff_ne.1 hb93)
            rw [hb93] at hs
            refine go_pvs 4 41 [4] hs (L' := [(4, .bool false)]) (by kernel_rfl) ?_ rfl
            clear hs; intro a hs
            refine go_end (by kernel_rfl) ?_
            replace hw := hw.only 1
            exact hJ6 t88 false _ _ (hs.keep [4] (by kernel_rfl)) hw H
          · replace H := ite_t H (beq_iff_eq.1 hb93)
            rw [hb93] at hs
            refine go_pvs 4 9 [6, 7, 11, 12, 13, 14, 15, 17, 82] hs (L' := [(6, .slice Aa13 (l0.take (mnn (l0.length : Int) 12 : Int).toNat).length cc14), (7, .pointer (some (⟨g32, 0, none⟩ : Addr))), (11, .int .i64 v55), (12, .int .u32 t64), (13, .int .i64 t65), (14, .int .u8 t72), (15, .int .i64 t73), (17, .int .i64 t87), (82, .bool (t80 == v61))]) (by kernel_rfl) ?_ rfl
            clear hs; intro a hs
            cases hb94 : (t80 == v61)
            · replace H := ite_f H (beq_eq_false_iff_ne.1 hb94)
              rw [hb94] at hs
              refine go_pvs 9 41 [4] hs (L' := [(4, .bool false)]) (by kernel_rfl) ?_ rfl
              clear hs; intro a hs
              refine go_end (by kernel_rfl) ?_
              replace hw := hw.only 1
              exact hJ6 t88 false _ _ (hs.keep [4] (by kernel_rfl)) hw H
            · replace H := ite_t H (beq_iff_eq.1 hb94)
              rw [hb94] at hs
              refine go_pvs 9 14 [6, 7, 11, 12, 13, 14, 15, 17, 87] hs (L' := [(6, .slice Aa13 (l0.take (mnn (l0.length : Int) 12 : Int).toNat).length cc14), (7, .pointer (some (⟨g32, 0, none⟩ : Addr))), (11, .int .i64 v55), (12, .int .u32 t64), (13, .int .i64 t65), (14, .int .u8 t72), (15, .int .i64 t73), (17, .int .i64 t87), (87, .bool (t73 == v55))]) (by kernel_rfl) ?_ rfl
              clear hs; intro a hs
              cases hb95 : (t73 == v55)
              · replace H := ite_f H (beq_eq_false_iff_ne.1 hb95)
                rw [hb95] at hs
                refine go_pvs 14 41 [4] hs (L' := [(4, .bool false)]) (by kernel_rfl) ?_ rfl
                clear hs; intro a hs
                refine go_end (by kernel_rfl) ?_
                replace hw := hw.only 1
                exact hJ6 t88 false _ _ (hs.keep [4] (by kernel_rfl)) hw H
              · replace H := ite_t H (beq_iff_eq.1 hb95)
                rw [hb95] at hs
                refine go_pvs 14 19 [6, 7, 12, 13, 14, 15, 92] hs (L' := [(6, .slice Aa13 (l0.take (mnn (l0.length : Int) 12 : Int).toNat).length cc14), (7, .pointer (some (⟨g32, 0, none⟩ : Addr))), (12, .int .u32 t64), (13, .int .i64 t65), (14, .int .u8 t72), (15, .int .i64 t73), (92, .bool (t87 == v55))]) (by kernel_rfl) ?_ rfl
                clear hs; intro a hs
                cases hb96 : (t87 == v55)
                · replace H := ite_f H (beq_eq_false_iff_ne.1 hb96)
                  rw [hb96] at hs
                  refine go_pvs 19 41 [4] hs (L' := [(4, .bool false)]) (by kernel_rfl) ?_ rfl
                  clear hs; intro a hs
                  refine go_end (by kernel_rfl) ?_
                  replace hw := hw.only 1
                  exact hJ6 t88 false _ _ (hs.keep [4] (by kernel_rfl)) hw H
                · replace H := ite_t H (beq_iff_eq.1 hb96)
                  rw [hb96] at hs
                  refine go_pvs 19 22 [6, 7, 12, 14, 15, 92, 95] hs (L' := [(6, .slice Aa13 (l0.take (mnn (l0.length : Int) 12 : Int).toNat).length cc14), (7, .pointer (some (⟨g32, 0, none⟩ : Addr))), (12, .int .u32 t64), (14, .int .u8 t72), (15, .int .i64 t73), (92, .bool true), (95, .bool (t65 == 0))]) (by kernel_rfl) ?_ rfl
                  clear hs; intro a hs
                  cases hb97 : (t65 == 0)
                  · replace H := ite_f H (beq_eq_false_iff_ne.1 hb97)
                    rw [hb97] at hs
                    refine go_pvs 22 27 [6, 7, 14, 15, 100] hs (L' := [(6, .slice Aa13 (l0.take (mnn (l0.length : Int) 12 : Int).toNat).length cc14), (7, .pointer (some (⟨g32, 0, none⟩ : Addr))), (14, .int .u8 t72), (15, .int .i64 t73), (100, .bool (t64 == 0))]) (by kernel_rfl) ?_ rfl
                    clear hs; intro a hs
                    cases hb98 : (t64 == 0)
                    · replace H := ite_f H (beq_eq_false_iff_ne.1 hb98)
                      rw [hb98] at hs
                      refine go_pvs 27 41 [4] hs (L' := [(4, .bool false)]) (by kernel_rfl) ?_ rfl
                      clear hs; intro a hs
                      refine go_end (by kernel_rfl) ?_
                      replace hw := hw.only 1
                      exact hJ6 t88 false _ _ (hs.keep [4] (by kernel_rfl)) hw H
                    · replace H := ite_t H (beq_iff_eq.1 hb98)
                      rw [hb98] at hs
                      refine go_pvs 27 30 [6, 7, 14, 100, 103] hs (L' := [(6, .slice Aa13 (l0.take (mnn (l0.length : Int) 12 : Int).toNat).length cc14), (7, .pointer (some (⟨g32, 0, none⟩ : Addr))), (14, .int .u8 t72), (100, .bool true), (103, .bool (t73 == 0))]) (by kernel_rfl) ?_ rfl
                      clear hs; intro a hs
                      cases hb99 : (t73 == 0)
                      · replace H := ite_f H (beq_eq_false_iff_ne.1 hb99)
                        rw [hb99] at hs
                        refine go_pvs 30 35 [6, 7, 108] hs (L' := [(6, .slice Aa13 (l0.take (mnn (l0.length : Int) 12 : Int).toNat).length cc14), (7, .pointer (some (⟨g32, 0, none⟩ : Addr))), (108, .bool (t72 == 0))]) (by kernel_rfl) ?_ rfl
                        clear hs; intro a hs
                        cases hb100 : (t72 == 0)
                        · replace H := ite_f H (beq_eq_false_iff_ne.1 hb100)
                          rw [hb100] at hs
                          refine go_pvs 35 41 [4] hs (L' := [(4, .bool false)]) (by kernel_rfl) ?_ rfl
                          clear hs; intro a hs
                          refine go_end (by kernel_rfl) ?_
                          replace hw := hw.only 1
                          exact hJ6 t88 false _ _ (hs.keep [4] (by kernel_rfl)) hw H
                        · replace H := ite_t H (beq_iff_eq.1 hb100)
                          rw [hb100] at hs
                          refine go_pvs 35 36 [6, 108, 109] hs (L' := [(6, .slice Aa13 (l0.take (mnn (l0.length : Int) 12 : Int).toNat).length cc14), (108, .bool true), (109, .pointer (some (⟨g32, 0, none⟩ : Addr)))]) (by kernel_rfl) ?_ rfl
                          clear hs; intro a hs
                          obtain ⟨ks101, hgks101, hstks101, hbkks101⟩ := hw.lend 1
                          obtain ⟨⟨t102, t103⟩, hx104, H⟩ := bind_some H
                          refine go_call hs (op := (Op.call { callee := (Callee.value (Operand.func 17)), args := #[(Operand.tmp 109)], argTypes := #[26] })) (ty := 22) (dst := some 110) (g := some (34, true)) (by kernel_rfl) (by kernel_rfl) (by kernel_rfl) (f := 17) (args := #[.pointer (some (⟨g32, 0, none⟩ : Addr))]) (by kernel_rfl) (memory_Memory_Words.calls ks101 (some (⟨g32, 0, none⟩ : Addr)) t88 (t102, t103) _ hgks101 hx104) ?_
                          rintro e wd107 ⟨Aa105, cc106, rfl, hw108⟩
                          refine ⟨_, rfl, ?_⟩
                          replace hw := hbkks101 _ _ hw108
                          replace hw := hw.up 1
                          replace hw : St [] w0 _ [own 68 eSmemory_Memory (some (⟨g32, 0, none⟩ : Addr)) 1 [t103], own 23 (eI .u32) Aa105 cc106 t102] := hw
                          intro a hs1
                          replace hs : Slots a 114 [(6, .slice Aa13 (l0.take (mnn (l0.length : Int) 12 : Int).toNat).length cc14), (108, .bool true), (110, .slice Aa105 t102.length cc106)] := hs1.keep [6, 108, 110] (by kernel_rfl)
                          clear hs1
                          refine go_pvs 37 38 [108, 110, 111] hs (L' := [(108, .bool true), (110, .slice Aa105 t102.length cc106), (111, .slice Aa13 (l0.take (mnn (l0.length : Int) 12 : Int).toNat).length cc14)]) (by kernel_rfl) ?_ rfl
                          clear hs; intro a hs
                          obtain ⟨t111, hx112, H⟩ := bind_some H
                          refine go_call hs (op := (Op.call { callee := (Callee.value (Operand.func 18)), args := #[(Operand.tmp 110), (Operand.tmp 111)], argTypes := #[22, 22] })) (ty := 4) (dst := some 112) (g := some (34, true)) (by kernel_rfl) (by kernel_rfl) (by kernel_rfl) (f := 18) (args := #[.slice Aa105 t102.length cc106, .slice Aa13 (l0.take (mnn (l0.length : Int) 12 : Int).toNat).length cc14]) (by kernel_rfl) (rivetref05_Same.calls Aa105 cc106 t102 Aa13 cc14 (l0.take (mnn (l0.length : Int) 12 : Int).toNat) t111 _ (Rd.of_own (hw.up 1)) (hc16 _ (hr0.old hw)) hx112) ?_
                          rintro e wd113 ⟨rfl, hw114⟩
                          refine ⟨_, rfl, ?_⟩
                          replace hw := hw.call hw114
                          intro a hs1
                          replace hs : Slots a 114 [(108, .bool true), (112, .bool t111)] := hs1.keep [108, 112] (by kernel_rfl)
                          clear hs1
                          refine go_pvs 39 41 [4] hs (L' := [(4, .bool t111)]) (by kernel_rfl) ?_ rfl
                          clear hs; intro a hs
                          refine go_end (by kernel_rfl) ?_
                          replace hw := hw.only 1
                          exact hJ6 t103 t111 _ _ (hs.keep [4] (by kernel_rfl)) hw H
                      · replace H := ite_t H (beq_iff_eq.1 hb99)
                        rw [hb99] at hs
                        refine go_pvs 30 36 [6, 108, 109] hs (L' := [(6, .slice Aa13 (l0.take (mnn (l0.length : Int) 12 : Int).toNat).length cc14), (108, .bool true), (109, .pointer (some (⟨g32, 0, none⟩ : Addr)))]) (by kernel_rfl) ?_ rfl
                        clear hs; intro a hs
                        obtain ⟨ks115, hgks115, hstks115, hbkks115⟩ := hw.lend 1
                        obtain ⟨⟨t116, t117⟩, hx118, H⟩ := bind_some H
                        refine go_call hs (op := (Op.call { callee := (Callee.value (Operand.func 17)), args := #[(Operand.tmp 109)], argTypes := #[26] })) (ty := 22) (dst := some 110) (g := some (34, true)) (by kernel_rfl) (by kernel_rfl) (by kernel_rfl) (f := 17) (args := #[.pointer (some (⟨g32, 0, none⟩ : Addr))]) (by kernel_rfl) (memory_Memory_Words.calls ks115 (some (⟨g32, 0, none⟩ : Addr)) t88 (t116, t117) _ hgks115 hx118) ?_
                        rintro e wd121 ⟨Aa119, cc120, rfl, hw122⟩
                        refine ⟨_, rfl, ?_⟩
                        replace hw := hbkks115 _ _ hw122
                        replace hw := hw.up 1
                        replace hw : St [] w0 _ [own 68 eSmemory_Memory (some (⟨g32, 0, none⟩ : Addr)) 1 [t117], own 23 (eI .u32) Aa119 cc120 t116] := hw
                        intro a hs1
                        replace hs : Slots a 114 [(6, .slice Aa13 (l0.take (mnn (l0.length : Int) 12 : Int).toNat).length cc14), (108, .bool true), (110, .slice Aa119 t116.length cc120)] := hs1.keep [6, 108, 110] (by kernel_rfl)
                        clear hs1
                        refine go_pvs 37 38 [108, 110, 111] hs (L' := [(108, .bool true), (110, .slice Aa119 t116.length cc120), (111, .slice Aa13 (l0.take (mnn (l0.length : Int) 12 : Int).toNat).length cc14)]) (by kernel_rfl) ?_ rfl
                        clear hs; intro a hs
                        obtain ⟨t125, hx126, H⟩ := bind_some H
                        refine go_call hs (op := (Op.call { callee := (Callee.value (Operand.func 18)), args := #[(Operand.tmp 110), (Operand.tmp 111)], argTypes := #[22, 22] })) (ty := 4) (dst := some 112) (g := some (34, true)) (by kernel_rfl) (by kernel_rfl) (by kernel_rfl) (f := 18) (args := #[.slice Aa119 t116.length cc120, .slice Aa13 (l0.take (mnn (l0.length : Int) 12 : Int).toNat).length cc14]) (by kernel_rfl) (rivetref05_Same.calls Aa119 cc120 t116 Aa13 cc14 (l0.take (mnn (l0.length : Int) 12 : Int).toNat) t125 _ (Rd.of_own (hw.up 1)) (hc16 _ (hr0.old hw)) hx126) ?_
                        rintro e wd127 ⟨rfl, hw128⟩
                        refine ⟨_, rfl, ?_⟩
                        replace hw := hw.call hw128
                        intro a hs1
                        replace hs : Slots a 114 [(108, .bool true), (112, .bool t125)] := hs1.keep [108, 112] (by kernel_rfl)
                        clear hs1
                        refine go_pvs 39 41 [4] hs (L' := [(4, .bool t125)]) (by kernel_rfl) ?_ rfl
                        clear hs; intro a hs
                        refine go_end (by kernel_rfl) ?_
                        replace hw := hw.only 1
                        exact hJ6 t117 t125 _ _ (hs.keep [4] (by kernel_rfl)) hw H
                  · replace H := ite_t H (beq_iff_eq.1 hb97)
                    rw [hb97] at hs
                    refine go_pvs 22 30 [6, 7, 14, 100, 103] hs (L' := [(6, .slice Aa13 (l0.take (mnn (l0.length : Int) 12 : Int).toNat).length cc14), (7, .pointer (some (⟨g32, 0, none⟩ : Addr))), (14, .int .u8 t72), (100, .bool true), (103, .bool (t73 == 0))]) (by kernel_rfl) ?_ rfl
                    clear hs; intro a hs
                    cases hb129 : (t73 == 0)
                    · replace H := ite_f H (beq_eq_false_iff_ne.1 hb129)
                      rw [hb129] at hs
                      refine go_pvs 30 35 [6, 7, 108] hs (L' := [(6, .slice Aa13 (l0.take (mnn (l0.length : Int) 12 : Int).toNat).length cc14), (7, .pointer (some (⟨g32, 0, none⟩ : Addr))), (108, .bool (t72 == 0))]) (by kernel_rfl) ?_ rfl
                      clear hs; intro a hs
                      cases hb130 : (t72 == 0)
                      · replace H := ite_f H (beq_eq_false_iff_ne.1 hb130)
                        rw [hb130] at hs
                        refine go_pvs 35 41 [4] hs (L' := [(4, .bool false)]) (by kernel_rfl) ?_ rfl
                        clear hs; intro a hs
                        refine go_end (by kernel_rfl) ?_
                        replace hw := hw.only 1
                        exact hJ6 t88 false _ _ (hs.keep [4] (by kernel_rfl)) hw H
                      · replace H := ite_t H (beq_iff_eq.1 hb130)
                        rw [hb130] at hs
                        refine go_pvs 35 36 [6, 108, 109] hs (L' := [(6, .slice Aa13 (l0.take (mnn (l0.length : Int) 12 : Int).toNat).length cc14), (108, .bool true), (109, .pointer (some (⟨g32, 0, none⟩ : Addr)))]) (by kernel_rfl) ?_ rfl
                        clear hs; intro a hs
                        obtain ⟨ks131, hgks131, hstks131, hbkks131⟩ := hw.lend 1
                        obtain ⟨⟨t132, t133⟩, hx134, H⟩ := bind_some H
                        refine go_call hs (op := (Op.call { callee := (Callee.value (Operand.func 17)), args := #[(Operand.tmp 109)], argTypes := #[26] })) (ty := 22) (dst := some 110) (g := some (34, true)) (by kernel_rfl) (by kernel_rfl) (by kernel_rfl) (f := 17) (args := #[.pointer (some (⟨g32, 0, none⟩ : Addr))]) (by kernel_rfl) (memory_Memory_Words.calls ks131 (some (⟨g32, 0, none⟩ : Addr)) t88 (t132, t133) _ hgks131 hx134) ?_
                        rintro e wd137 ⟨Aa135, cc136, rfl, hw138⟩
                        refine ⟨_, rfl, ?_⟩
                        replace hw := hbkks131 _ _ hw138
                        replace hw := hw.up 1
                        replace hw : St [] w0 _ [own 68 eSmemory_Memory (some (⟨g32, 0, none⟩ : Addr)) 1 [t133], own 23 (eI .u32) Aa135 cc136 t132] := hw
                        intro a hs1
                        replace hs : Slots a 114 [(6, .slice Aa13 (l0.take (mnn (l0.length : Int) 12 : Int).toNat).length cc14), (108, .bool true), (110, .slice Aa135 t132.length cc136)] := hs1.keep [6, 108, 110] (by kernel_rfl)
                        clear hs1
                        refine go_pvs 37 38 [108, 110, 111] hs (L' := [(108, .bool true), (110, .slice Aa135 t132.length cc136), (111, .slice Aa13 (l0.take (mnn (l0.length : Int) 12 : Int).toNat).length cc14)]) (by kernel_rfl) ?_ rfl
                        clear hs; intro a hs
                        obtain ⟨t141, hx142, H⟩ := bind_some H
                        refine go_call hs (op := (Op.call { callee := (Callee.value (Operand.func 18)), args := #[(Operand.tmp 110), (Operand.tmp 111)], argTypes := #[22, 22] })) (ty := 4) (dst := some 112) (g := some (34, true)) (by kernel_rfl) (by kernel_rfl) (by kernel_rfl) (f := 18) (args := #[.slice Aa135 t132.length cc136, .slice Aa13 (l0.take (mnn (l0.length : Int) 12 : Int).toNat).length cc14]) (by kernel_rfl) (rivetref05_Same.calls Aa135 cc136 t132 Aa13 cc14 (l0.take (mnn (l0.length : Int) 12 : Int).toNat) t141 _ (Rd.of_own (hw.up 1)) (hc16 _ (hr0.old hw)) hx142) ?_
                        rintro e wd143 ⟨rfl, hw144⟩
                        refine ⟨_, rfl, ?_⟩
                        replace hw := hw.call hw144
                        intro a hs1
                        replace hs : Slots a 114 [(108, .bool true), (112, .bool t141)] := hs1.keep [108, 112] (by kernel_rfl)
                        clear hs1
                        refine go_pvs 39 41 [4] hs (L' := [(4, .bool t141)]) (by kernel_rfl) ?_ rfl
                        clear hs; intro a hs
                        refine go_end (by kernel_rfl) ?_
                        replace hw := hw.only 1
                        exact hJ6 t133 t141 _ _ (hs.keep [4] (by kernel_rfl)) hw H
                    · replace H := ite_t H (beq_iff_eq.1 hb129)
                      rw [hb129] at hs
                      refine go_pvs 30 36 [6, 108, 109] hs (L' := [(6, .slice Aa13 (l0.take (mnn (l0.length : Int) 12 : Int).toNat).length cc14), (108, .bool true), (109, .pointer (some (⟨g32, 0, none⟩ : Addr)))]) (by kernel_rfl) ?_ rfl
                      clear hs; intro a hs
                      obtain ⟨ks145, hgks145, hstks145, hbkks145⟩ := hw.lend 1
                      obtain ⟨⟨t146, t147⟩, hx148, H⟩ := bind_some H
                      refine go_call hs (op := (Op.call { callee := (Callee.value (Operand.func 17)), args := #[(Operand.tmp 109)], argTypes := #[26] })) (ty := 22) (dst := some 110) (g := some (34, true)) (by kernel_rfl) (by kernel_rfl) (by kernel_rfl) (f := 17) (args := #[.pointer (some (⟨g32, 0, none⟩ : Addr))]) (by kernel_rfl) (memory_Memory_Words.calls ks145 (some (⟨g32, 0, none⟩ : Addr)) t88 (t146, t147) _ hgks145 hx148) ?_
                      rintro e wd151 ⟨Aa149, cc150, rfl, hw152⟩
                      refine ⟨_, rfl, ?_⟩
                      replace hw := hbkks145 _ _ hw152
                      replace hw := hw.up 1
                      replace hw : St [] w0 _ [own 68 eSmemory_Memory (some (⟨g32, 0, none⟩ : Addr)) 1 [t147], own 23 (eI .u32) Aa149 cc150 t146] := hw
                      intro a hs1
                      replace hs : Slots a 114 [(6, .slice Aa13 (l0.take (mnn (l0.length : Int) 12 : Int).toNat).length cc14), (108, .bool true), (110, .slice Aa149 t146.length cc150)] := hs1.keep [6, 108, 110] (by kernel_rfl)
                      clear hs1
                      refine go_pvs 37 38 [108, 110, 111] hs (L' := [(108, .bool true), (110, .slice Aa149 t146.length cc150), (111, .slice Aa13 (l0.take (mnn (l0.length : Int) 12 : Int).toNat).length cc14)]) (by kernel_rfl) ?_ rfl
                      clear hs; intro a hs
                      obtain ⟨t155, hx156, H⟩ := bind_some H
                      refine go_call hs (op := (Op.call { callee := (Callee.value (Operand.func 18)), args := #[(Operand.tmp 110), (Operand.tmp 111)], argTypes := #[22, 22] })) (ty := 4) (dst := some 112) (g := some (34, true)) (by kernel_rfl) (by kernel_rfl) (by kernel_rfl) (f := 18) (args := #[.slice Aa149 t146.length cc150, .slice Aa13 (l0.take (mnn (l0.length : Int) 12 : Int).toNat).length cc14]) (by kernel_rfl) (rivetref05_Same.calls Aa149 cc150 t146 Aa13 cc14 (l0.take (mnn (l0.length : Int) 12 : Int).toNat) t155 _ (Rd.of_own (hw.up 1)) (hc16 _ (hr0.old hw)) hx156) ?_
                      rintro e wd157 ⟨rfl, hw158⟩
                      refine ⟨_, rfl, ?_⟩
                      replace hw := hw.call hw158
                      intro a hs1
                      replace hs : Slots a 114 [(108, .bool true), (112, .bool t155)] := hs1.keep [108, 112] (by kernel_rfl)
                      clear hs1
                      refine go_pvs 39 41 [4] hs (L' := [(4, .bool t155)]) (by kernel_rfl) ?_ rfl
                      clear hs; intro a hs
                      refine go_end (by kernel_rfl) ?_
                      replace hw := hw.only 1
                      exact hJ6 t147 t155 _ _ (hs.keep [4] (by kernel_rfl)) hw H
        refine go_seq_k fun K58 hK58 => ?_
        refine go_region ?_
        refine go_pvs 0 3 [1, 6, 7, 10, 11, 53] hs (L' := [(1, .int .u32 a1), (6, .slice Aa13 (l0.take (mnn (l0.length : Int) 12 : Int).toNat).length cc14), (7, .pointer (some (⟨g32, 0, none⟩ : Addr))), (10, .int .i64 v55), (11, .int .i64 v55), (53, .bool ((a1.tmod 4) != 0))]) (by kernel_rfl) ?_ rfl
        clear hs; intro a hs
        refine go_end (by kernel_rfl) ?_
        refine hK58 _ _ ?_
        refine go_cond hs ((a1.tmod 4) != 0) (by kernel_rfl) (fun hc => ?_) (fun hc => ?_)
        · replace H := ite_f H (bne_iff_ne.1 hc)
          have hb59 := hc
          rw [hb59] at hs
          refine go_region ?_
          refine go_pvs 0 1 [1, 6, 7, 10, 11] hs (L' := [(1, .int .u32 a1), (6, .slice Aa13 (l0.take (mnn (l0.length : Int) 12 : Int).toNat).length cc14), (7, .pointer (some (⟨g32, 0, none⟩ : Addr))), (10, .int .i64 4), (11, .int .i64 v55)]) (by kernel_rfl) ?_ rfl
          clear hs; intro a hs
          refine go_end (by kernel_rfl) ?_
          replace hw := hw.only 1
          exact hJ5 4 _ _ (hs.keep [1, 6, 7, 10, 11] (by kernel_rfl)) hw H
        · replace H := ite_t H (bne_eq_false_iff_eq.1 hc)
          have hb60 := hc
          rw [hb60] at hs
          refine wp_skip ?_
          replace hw := hw.only 1
          exact hJ5 v55 _ _ (hs.keep [1, 6, 7, 10, 11] (by kernel_rfl)) hw H
      refine go_seq_k fun K52 hK52 => ?_
      refine go_region ?_
      refine go_pvs 0 1 [1, 6, 7, 10, 49] hs (L' := [(1, .int .u32 a1), (6, .slice Aa13 (l0.take (mnn (l0.length : Int) 12 : Int).toNat).length cc14), (7, .pointer (some (⟨g32, 0, none⟩ : Addr))), (10, .int .i64 0), (49, .bool (decide ((w64 a1) ≥ (w64 (4 * ((l0.take (mnn (l0.length : Int) 12 : Int).toNat).length : Int))))))]) (by kernel_rfl) ?_ rfl
      clear hs; intro a hs
      refine go_end (by kernel_rfl) ?_
      refine hK52 _ _ ?_
      refine go_cond hs (decide ((w64 a1) ≥ (w64 (4 * ((l0.take (mnn (l0.length : Int) 12 : Int).toNat).length : Int))))) (by kernel_rfl) (fun hc => ?_) (fun hc => ?_)
      · replace H := ite_t H (of_decide_eq_true hc)
        have hb53 := hc
        rw [hb53] at hs
        refine go_region ?_
        refine go_pvs 0 1 [1, 6, 7, 10] hs (L' := [(1, .int .u32 a1), (6, .slice Aa13 (l0.take (mnn (l0.length : Int) 12 : Int).toNat).length cc14), (7, .pointer (some (⟨g32, 0, none⟩ : Addr))), (10, .int .i64 3)]) (by kernel_rfl) ?_ rfl
        clear hs; intro a hs
        refine go_end (by kernel_rfl) ?_
        replace hw := hw.only 1
        exact hJ4 3 _ _ (hs.keep [1, 6, 7, 10] (by kernel_rfl)) hw H
      · replace H := ite_f H (of_decide_eq_false hc)
        have hb54 := hc
        rw [hb54] at hs
        refine wp_skip ?_
        replace hw := hw.only 1
        exact hJ4 0 _ _ (hs.keep [1, 6, 7, 10] (by kernel_rfl)) hw H
    refine go_seq_k fun K34 hK34 => ?_
    have hJ2 : ∀ (v43 : Smemory_Memory) (v44 : Bool) (a : Act) (w : World), Slots a 114 [(1, .int .u32 a1), (6, .slice Aa13 (l0.take (mnn (l0.length : Int) 12 : Int).toNat).length cc14), (7, .pointer (some (⟨g32, 0, none⟩ : Addr))), (42, .bool v44)] → St [] w0 w [own 68 eSmemory_Memory (some (⟨g32, 0, none⟩ : Addr)) 1 [v43]] → rivetlaw05_MemoryTraps.j2 a1 l0 v43 v44 = some r → K34 a w := by
      intro v43 v44 a w hs hw H
      unfold rivetlaw05_MemoryTraps.j2 at H
      refine hK34 _ _ ?_
      refine go_cond hs v44 (by kernel_rfl) (fun hc => ?_) (fun hc => ?_)
      · replace H := ite_t H hc
        have hb45 := hc
        rw [hb45] at hs
        refine go_seq_k fun K46 hK46 => ?_
        refine go_region ?_
        refine go_pvs 0 1 [4] hs (L' := [(4, .bool false)]) (by kernel_rfl) ?_ rfl
        clear hs; intro a hs
        refine go_end (by kernel_rfl) ?_
        refine hK46 _ _ ?_
        refine wp_ret ?_
        refine th_ret ?_
        obtain rfl := Option.some.inj H
        refine ret1 (t := 4) (v := .bool false) hs (by kernel_rfl) (by kernel_rfl) ?_
        exact ⟨rfl, hw.only 0⟩
      · replace H := ite_f H (ff hc)
        have hb47 := hc
        rw [hb47] at hs
        refine wp_skip ?_
        replace hw := hw.only 1
        exact hJ3 v43 _ _ (hs.keep [1, 6, 7] (by kernel_rfl)) hw H
    refine go_region ?_
    refine go_pvs 0 3 [1, 6, 7, 8, 29] hs (L' := [(1, .int .u32 a1), (6, .slice Aa13 (l0.take (mnn (l0.length : Int) 12 : Int).toNat).length cc14), (7, .pointer (some (⟨g32, 0, none⟩ : Addr))), (8, .int .i64 t21), (29, .bool (!t4))]) (by kernel_rfl) ?_ rfl
    clear hs; intro a hs
    cases hb35 : (!t4)
    · replace H := ite_t H (nf hb35)
      rw [hb35] at hs
      refine go_pvs 3 11 [1, 6, 7, 37] hs (L' := [(1, .int .u32 a1), (6, .slice Aa13 (l0.take (mnn (l0.length : Int) 12 : Int).toNat).length cc14), (7, .pointer (some (⟨g32, 0, none⟩ : Addr))), (37, .bool (t21 != 0))]) (by kernel_rfl) ?_ rfl
      clear hs; intro a hs
      cases hb36 : (t21 != 0)
      · replace H := ite_t H (bne_eq_false_iff_eq.1 hb36)
        rw [hb36] at hs
        refine go_pvs 11 13 [1, 6, 7, 37, 38, 39] hs (L' := [(1, .int .u32 a1), (6, .slice Aa13 (l0.take (mnn (l0.length : Int) 12 : Int).toNat).length cc14), (7, .pointer (some (⟨g32, 0, none⟩ : Addr))), (37, .bool false), (38, .pointer (some (⟨g32, 0, none⟩ : Addr))), (39, .slice Aa13 (l0.take (mnn (l0.length : Int) 12 : Int).toNat).length cc14)]) (by kernel_rfl) ?_ rfl
        clear hs; intro a hs
        obtain ⟨ks37, hgks37, hstks37, hbkks37⟩ := hw.lend 1
        obtain ⟨⟨t38, t39⟩, hx40, H⟩ := bind_some H
        refine go_call hs (op := (Op.call { callee := (Callee.value (Operand.func 16)), args := #[(Operand.tmp 38), (Operand.const (Value.int IntKind.i64 0)), (Operand.tmp 39)], argTypes := #[26, 3, 22] })) (ty := 27) (dst := some 40) (g := some (10, false)) (by kernel_rfl) (by kernel_rfl) (by kernel_rfl) (f := 16) (args := #[.pointer (some (⟨g32, 0, none⟩ : Addr)), .int .i64 0, .slice Aa13 (l0.take (mnn (l0.length : Int) 12 : Int).toNat).length cc14]) (by kernel_rfl) (memory_Memory_Place.calls ks37 (some (⟨g32, 0, none⟩ : Addr)) x27 0 Aa13 cc14 (l0.take (mnn (l0.length : Int) 12 : Int).toNat) (t38, t39) _ hgks37 (fun wz hkz => (hc16 _ (hr0.old (hstks37 _ hkz)))) hx40) ?_
        rintro e wd41 ⟨rfl, hw42⟩
        refine ⟨_, rfl, ?_⟩
        replace hw := hbkks37 _ _ hw42
        replace hw : St [] w0 _ [own 68 eSmemory_Memory (some (⟨g32, 0, none⟩ : Addr)) 1 [t39]] := hw
        intro a hs1
        replace hs : Slots a 114 [(1, .int .u32 a1), (6, .slice Aa13 (l0.take (mnn (l0.length : Int) 12 : Int).toNat).length cc14), (7, .pointer (some (⟨g32, 0, none⟩ : Addr))), (37, .bool false), (40, .int .i64 t38)] := hs1.keep [1, 6, 7, 37, 40] (by kernel_rfl)
        clear hs1
        refine go_pvs 14 16 [1, 6, 7, 42] hs (L' := [(1, .int .u32 a1), (6, .slice Aa13 (l0.take (mnn (l0.length : Int) 12 : Int).toNat).length cc14), (7, .pointer (some (⟨g32, 0, none⟩ : Addr))), (42, .bool (t38 != 0))]) (by kernel_rfl) ?_ rfl
        clear hs; intro a hs
        refine go_end (by kernel_rfl) ?_
        replace hw := hw.only 1
        exact hJ2 t39 (t38 != 0) _ _ (hs.keep [1, 6, 7, 42] (by kernel_rfl)) hw H
      · replace H := ite_f H (bne_iff_ne.1 hb36)
        rw [hb36] at hs
        refine go_pvs 11 16 [1, 6, 7, 42] hs (L' := [(1, .int .u32 a1), (6, .slice Aa13 (l0.take (mnn (l0.length : Int) 12 : Int).toNat).length cc14), (7, .pointer (some (⟨g32, 0, none⟩ : Addr))), (42, .bool true)]) (by kernel_rfl) ?_ rfl
        clear hs; intro a hs
        refine go_end (by kernel_rfl) ?_
        replace hw := hw.only 1
        exact hJ2 x27 true _ _ (hs.keep [1, 6, 7, 42] (by kernel_rfl)) hw H
    · replace H := ite_f H (ff (nt hb35))
      rw [hb35] at hs
      refine go_pvs 3 16 [1, 6, 7, 42] hs (L' := [(1, .int .u32 a1), (6, .slice Aa13 (l0.take (mnn (l0.length : Int) 12 : Int).toNat).length cc14), (7, .pointer (some (⟨g32, 0, none⟩ : Addr))), (42, .bool true)]) (by kernel_rfl) ?_ rfl
      clear hs; intro a hs
      refine go_end (by kernel_rfl) ?_
      replace hw := hw.only 1
      exact hJ2 x27 true _ _ (hs.keep [1, 6, 7, 42] (by kernel_rfl)) hw H

end Go.Proofs.Ytpbfjcpndmmgoaa.T05
