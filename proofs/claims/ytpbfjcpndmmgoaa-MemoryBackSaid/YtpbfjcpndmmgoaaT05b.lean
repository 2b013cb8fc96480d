/- YtpbfjcpndmmgoaaT05: Go functions told as plain ones, each with a proof that its call comes to what is told, part 2. Condition of each: that the plain function comes to a value. -/
import Derived.Test.YtpbfjcpndmmgoaaT05a
namespace Go.Proofs.Ytpbfjcpndmmgoaa.T05
open Go Go.RowKit Go.Proofs.Ytpbfjcpndmmgoaa.E
set_option linter.unusedVariables false
set_option linter.unusedSimpArgs false

/-! rivet/rivetlaw05.MemoryPlaces: function 4 -/
noncomputable def rivetlaw05_MemoryPlaces.j1 : Option Bool := some false
noncomputable def rivetlaw05_MemoryPlaces.j10 (v102 : Int) : Option (Int ⊕ (Ex Bool Unit)) := some (.inl (w64 (v102 + 1)))
noncomputable def rivetlaw05_MemoryPlaces.j9 (v102 : Int) (t72 : List Int) (v120 : Int) : Option (Int ⊕ (Ex Bool Unit)) := (if 0 ≤ v102 ∧ v102 < (t72.length : Int) then (if (ix (eI .u32).d t72 v102) = v120 then rivetlaw05_MemoryPlaces.j10 v102 else some (.inr (.ret false))) else none)
noncomputable def rivetlaw05_MemoryPlaces.j8 (v102 : Int) (a2 : Int) (l1 : List Int) (t72 : List Int) (y110 : Int) (v114 : Bool) : Option (Int ⊕ (Ex Bool Unit)) := (if v114 = true then (if 0 ≤ (w64 (v102 - a2)) ∧ (w64 (v102 - a2)) < ((l1.take (mnn (l1.length : Int) 12 : Int).toNat).length : Int) then (nm (ix (eI .u32).d (l1.take (mnn (l1.length : Int) 12 : Int).toNat) (w64 (v102 - a2))) fun y118 => rivetlaw05_MemoryPlaces.j9 v102 t72 y118) else none) else rivetlaw05_MemoryPlaces.j9 v102 t72 y110)
noncomputable def rivetlaw05_MemoryPlaces.b101 (t72 : List Int) (l0 : List Int) (a2 : Int) (l1 : List Int) (v102 : Int) : Option (Int ⊕ (Ex Bool Unit)) := (if v102 < (t72.length : Int) then (if 0 ≤ v102 ∧ v102 < ((l0.take (mnn (l0.length : Int) 12 : Int).toNat).length : Int) then (nm (ix (eI .u32).d (l0.take (mnn (l0.length : Int) 12 : Int).toNat) v102) fun y110 => (if v102 ≥ a2 then rivetlaw05_MemoryPlaces.j8 v102 a2 l1 t72 y110 (decide (v102 < (w64 (a2 + ((l1.take (mnn (l1.length : Int) 12 : Int).toNat).length : Int))))) else rivetlaw05_MemoryPlaces.j8 v102 a2 l1 t72 y110 false)) else none) else some (.inr (.done ())))
noncomputable def rivetlaw05_MemoryPlaces.j11 : Option Bool := some true
noncomputable def rivetlaw05_MemoryPlaces.j7 (t72 : List Int) (l0 : List Int) (a2 : Int) (l1 : List Int) : Option Bool := ((loopO (fun (σ : Int) => rivetlaw05_MemoryPlaces.b101 t72 l0 a2 l1 σ) 0).bind fun e => match e with | .ret x => some x | .done e => rivetlaw05_MemoryPlaces.j11)
noncomputable def rivetlaw05_MemoryPlaces.j6 (t72 : List Int) (l0 : List Int) (a2 : Int) (l1 : List Int) (v95 : Bool) : Option Bool := (if v95 = true then some false else rivetlaw05_MemoryPlaces.j7 t72 l0 a2 l1)
noncomputable def rivetlaw05_MemoryPlaces.j5 (v90 : Bool) : Option Bool := some v90
noncomputable def rivetlaw05_MemoryPlaces.j4 (v58 : Smemory_Memory) (a2 : Int) (l1 : List Int) (l0 : List Int) (v62 : Bool) : Option Bool := ((memory_Memory_Place v58 a2 (l1.take (mnn (l1.length : Int) 12 : Int).toNat)).bind fun ⟨t65, t66⟩ => (((memory_Memory_Words t66).bind fun ⟨t72, t73⟩ => ((if v62 = true then (if t65 = 0 then rivetlaw05_MemoryPlaces.j6 t72 l0 a2 l1 ((t72.length : Int) != ((l0.take (mnn (l0.length : Int) 12 : Int).toNat).length : Int)) else rivetlaw05_MemoryPlaces.j6 t72 l0 a2 l1 true) else (if t65 = 11 then ((rivetref05_Same t72 (l0.take (mnn (l0.length : Int) 12 : Int).toNat)).bind fun t86 => (rivetlaw05_MemoryPlaces.j5 t86)) else rivetlaw05_MemoryPlaces.j5 false))))))
noncomputable def rivetlaw05_MemoryPlaces.j3 (a2 : Int) (l0 : List Int) (l1 : List Int) (v58 : Smemory_Memory) : Option Bool := (if a2 ≥ 0 then (if a2 ≤ ((l0.take (mnn (l0.length : Int) 12 : Int).toNat).length : Int) then rivetlaw05_MemoryPlaces.j4 v58 a2 l1 l0 (decide (((l1.take (mnn (l1.length : Int) 12 : Int).toNat).length : Int) ≤ (w64 (((l0.take (mnn (l0.length : Int) 12 : Int).toNat).length : Int) - a2)))) else rivetlaw05_MemoryPlaces.j4 v58 a2 l1 l0 false) else rivetlaw05_MemoryPlaces.j4 v58 a2 l1 l0 false)
noncomputable def rivetlaw05_MemoryPlaces.j2 (a2 : Int) (l0 : List Int) (l1 : List Int) (v53 : Smemory_Memory) (v54 : Bool) : Option Bool := (if v54 = true then some false else rivetlaw05_MemoryPlaces.j3 a2 l0 l1 v53)
noncomputable def rivetlaw05_MemoryPlaces (l0 : List Int) (l1 : List Int) (a2 : Int) : Option Bool := ((rivetlaw05_shown).bind fun t4 => ((if 0 ≤ (mnn (l0.length : Int) 12) ∧ (mnn (l0.length : Int) 12) ≤ (l0.length : Int) then (if 0 ≤ (mnn (l1.length : Int) 12) ∧ (mnn (l1.length : Int) 12) ≤ (l1.length : Int) then ((memory_New ((l0.take (mnn (l0.length : Int) 12 : Int).toNat).length : Int)).bind fun ⟨t30, t31⟩ => ((match t30 with | none => (if t4 = true then rivetlaw05_MemoryPlaces.j1 else rivetlaw05_MemoryPlaces.j1) | some x37 => (if t4 = true then (if t31 = 0 then ((memory_Memory_Place x37 0 (l0.take (mnn (l0.length : Int) 12 : Int).toNat)).bind fun ⟨t48, t49⟩ => (rivetlaw05_MemoryPlaces.j2 a2 l0 l1 t49 (t48 != 0))) else rivetlaw05_MemoryPlaces.j2 a2 l0 l1 x37 true) else rivetlaw05_MemoryPlaces.j2 a2 l0 l1 x37 true)))) else none) else none)))
set_option maxRecDepth 100000 in
set_option maxHeartbeats 4000000 in
theorem rivetlaw05_MemoryPlaces.calls (A0 : Option Addr) (c0 : Nat) (l0 : List Int) (A1 : Option Addr) (c1 : Nat) (l1 : List Int) (a2 : Int) (r : Bool) (w0 : World) (hr0 : Rd w0 (eI .u32) A0 c0 l0) (hr1 : Rd w0 (eI .u32) A1 c1 l1) (H : rivetlaw05_MemoryPlaces l0 l1 a2 = some r) :
    Calls Try.prog 4 #[.slice A0 l0.length c0, .slice A1 l1.length c1, .int .i64 a2] w0 fun e w' => e = .returned (.bool r) ∧ St [] w0 w' [] := by
  have hw : St [] w0 w0 [] := St.nil w0
  unfold rivetlaw05_MemoryPlaces at H
  refine go_fn Try.func4 rfl 118 Try.ntmps4 [(0, .slice A0 l0.length c0), (1, .slice A1 l1.length c1), (2, .int .i64 a2)] (by kernel_rfl) rfl ?_
  intro a hs
  refine go_seq_k fun K1 hK1 => ?_
  refine go_region ?_
  refine go_pvs 0 1 [0, 1, 2] hs (L' := [(0, .slice A0 l0.length c0), (1, .slice A1 l1.length c1), (2, .int .i64 a2)]) (by kernel_rfl) ?_ rfl
  clear hs; intro a hs
  refine go_end (by kernel_rfl) ?_
  refine hK1 _ _ ?_
  refine go_seq_k fun K2 hK2 => ?_
  refine go_region ?_
  obtain ⟨t4, hx5, H⟩ := bind_some H
  refine go_call hs (op := (Op.call { callee := (Callee.value (Operand.func 13)), args := #[], argTypes := #[] })) (ty := 4) (dst := some 17) (g := none) (by kernel_rfl) (by kernel_rfl) (by kernel_rfl) (f := 13) (args := #[]) (by kernel_rfl) (rivetlaw05_shown.calls t4 _ hx5) ?_
  rintro e wd6 ⟨rfl, hw7⟩
  refine ⟨_, rfl, ?_⟩
  replace hw := hw.call hw7
  intro a hs1
  replace hs : Slots a 118 [(0, .slice A0 l0.length c0), (1, .slice A1 l1.length c1), (2, .int .i64 a2), (17, .bool t4)] := hs1.keep [0, 1, 2, 17] (by kernel_rfl)
  clear hs1
  refine go_pvs 1 2 [0, 1, 2, 7] hs (L' := [(0, .slice A0 l0.length c0), (1, .slice A1 l1.length c1), (2, .int .i64 a2), (7, .bool t4)]) (by kernel_rfl) ?_ rfl
  clear hs; intro a hs
  refine go_end (by kernel_rfl) ?_
  refine hK2 _ _ ?_
  refine go_seq_k fun K8 hK8 => ?_
  refine go_region ?_
  refine go_pvs 0 1 [1, 2, 7, 18] hs (L' := [(1, .slice A1 l1.length c1), (2, .int .i64 a2), (7, .bool t4), (18, .slice A0 l0.length c0)]) (by kernel_rfl) ?_ rfl
  clear hs; intro a hs
  refine go_inline_k hs (op := (Op.call { callee := (Callee.value (Operand.func 14)), args := #[(Operand.tmp 18)], argTypes := #[22] })) (ty := 22) (dst := some 19) (g := none) (by kernel_rfl) (by kernel_rfl) (by kernel_rfl) (f := 14) (args := #[.slice A0 l0.length c0]) (by kernel_rfl) (fun KR9 hKR9 => ?_)
  refine go_fn Try.func14 rfl 8 Try.ntmps14 [(0, .slice A0 l0.length c0)] (by kernel_rfl) rfl ?_
  clear hs; intro a hs
  refine go_seq_k fun K10 hK10 => ?_
  refine go_region ?_
  refine go_pvs 0 1 [0] hs (L' := [(0, .slice A0 l0.length c0)]) (by kernel_rfl) ?_ rfl
  clear hs; intro a hs
  refine go_end (by kernel_rfl) ?_
  refine hK10 _ _ ?_
  refine go_seq_k fun K11 hK11 => ?_
  refine go_region ?_
  refine go_pvs 0 4 [3, 6] hs (L' := [(3, .slice A0 l0.length c0), (6, .int .i64 (mnn (l0.length : Int) 12))]) (by kernel_rfl) ?_ rfl
  clear hs; intro a hs
  obtain ⟨hp12, H⟩ := ite_only H
  obtain ⟨Aa13, cc14, hx15, hc16⟩ := c_hi (P := Try.prog) (L := [(3, .slice A0 l0.length c0), (6, .int .i64 (mnn (l0.length : Int) 12))]) (ty := 22) (E := (eI .u32)) (T := 23) (t := 22) (x := (Operand.tmp 3)) (y := (Operand.tmp 6)) (k := .i64) (by kernel_rfl) (by kernel_rfl) (hr0.old hw) (by kernel_rfl) (by kernel_rfl) hp12.1 hp12.2
  refine go_run hs (op := (Op.slice 22 (Operand.tmp 3) none (some (Operand.tmp 6)) none)) (ty := 22) (dst := some 7) (g := none) (by kernel_rfl) (by kernel_rfl) (by kernel_rfl) hx15 [7] (L' := [(7, .slice Aa13 (l0.take (mnn (l0.length : Int) 12 : Int).toNat).length cc14)]) (by kernel_rfl) ?_
  clear hs; intro a hs
  refine go_pvs 5 6 [2] hs (L' := [(2, .slice Aa13 (l0.take (mnn (l0.length : Int) 12 : Int).toNat).length cc14)]) (by kernel_rfl) ?_ rfl
  clear hs; intro a hs
  refine go_end (by kernel_rfl) ?_
  refine hK11 _ _ ?_
  refine wp_ret ?_
  refine ret1 (t := 2) (v := .slice Aa13 (l0.take (mnn (l0.length : Int) 12 : Int).toNat).length cc14) hs (by kernel_rfl) (by kernel_rfl) ?_
  refine ⟨_, rfl, ?_⟩
  refine hKR9 _ _ ?_
  intro a hs1
  have hs : Slots a _ [(1, .slice A1 l1.length c1), (2, .int .i64 a2), (7, .bool t4), (19, .slice Aa13 (l0.take (mnn (l0.length : Int) 12 : Int).toNat).length cc14)] := hs1.keep [1, 2, 7, 19] (by kernel_rfl)
  clear hs1
  refine go_pvs 2 3 [1, 2, 7, 8] hs (L' := [(1, .slice A1 l1.length c1), (2, .int .i64 a2), (7, .bool t4), (8, .slice Aa13 (l0.take (mnn (l0.length : Int) 12 : Int).toNat).length cc14)]) (by kernel_rfl) ?_ rfl
  clear hs; intro a hs
  refine go_end (by kernel_rfl) ?_
  refine hK8 _ _ ?_
  refine go_seq_k fun K18 hK18 => ?_
  refine go_region ?_
  refine go_pvs 0 1 [2, 7, 8, 20] hs (L' := [(2, .int .i64 a2), (7, .bool t4), (8, .slice Aa13 (l0.take (mnn (l0.length : Int) 12 : Int).toNat).length cc14), (20, .slice A1 l1.length c1)]) (by kernel_rfl) ?_ rfl
  clear hs; intro a hs
  refine go_inline_k hs (op := (Op.call { callee := (Callee.value (Operand.func 14)), args := #[(Operand.tmp 20)], argTypes := #[22] })) (ty := 22) (dst := some 21) (g := none) (by kernel_rfl) (by kernel_rfl) (by kernel_rfl) (f := 14) (args := #[.slice A1 l1.length c1]) (by kernel_rfl) (fun KR19 hKR19 => ?_)
  refine go_fn Try.func14 rfl 8 Try.ntmps14 [(0, .slice A1 l1.length c1)] (by kernel_rfl) rfl ?_
  clear hs; intro a hs
  refine go_seq_k fun K20 hK20 => ?_
  refine go_region ?_
  refine go_pvs 0 1 [0] hs (L' := [(0, .slice A1 l1.length c1)]) (by kernel_rfl) ?_ rfl
  clear hs; intro a hs
  refine go_end (by kernel_rfl) ?_
  refine hK20 _ _ ?_
  refine go_seq_k fun K21 hK21 => ?_
  refine go_region ?_
  refine go_pvs 0 4 [3, 6] hs (L' := [(3, .slice A1 l1.length c1), (6, .int .i64 (mnn (l1.length : Int) 12))]) (by kernel_rfl) ?_ rfl
  clear hs; intro a hs
  obtain ⟨hp22, H⟩ := ite_only H
  obtain ⟨Aa23, cc24, hx25, hc26⟩ := c_hi (P := Try.prog) (L := [(3, .slice A1 l1.length c1), (6, .int .i64 (mnn (l1.length : Int) 12))]) (ty := 22) (E := (eI .u32)) (T := 23) (t := 22) (x := (Operand.tmp 3)) (y := (Operand.tmp 6)) (k := .i64) (by kernel_rfl) (by kernel_rfl) (hr1.old hw) (by kernel_rfl) (by kernel_rfl) hp22.1 hp22.2
  refine go_run hs (op := (Op.slice 22 (Operand.tmp 3) none (some (Operand.tmp 6)) none)) (ty := 22) (dst := some 7) (g := none) (by kernel_rfl) (by kernel_rfl) (by kernel_rfl) hx25 [7] (L' := [(7, .slice Aa23 (l1.take (mnn (l1.length : Int) 12 : Int).toNat).length cc24)]) (by kernel_rfl) ?_
  clear hs; intro a hs
  refine go_pvs 5 6 [2] hs (L' := [(2, .slice Aa23 (l1.take (mnn (l1.length : Int) 12 : Int).toNat).length cc24)]) (by kernel_rfl) ?_ rfl
  clear hs; intro a hs
  refine go_end (by kernel_rfl) ?_
  refine hK21 _ _ ?_
  refine wp_ret ?_
  refine ret1 (t := 2) (v := .slice Aa23 (l1.take (mnn (l1.length : Int) 12 : Int).toNat).length cc24) hs (by kernel_rfl) (by kernel_rfl) ?_
  refine ⟨_, rfl, ?_⟩
  refine hKR19 _ _ ?_
  intro a hs1
  have hs : Slots a _ [(2, .int .i64 a2), (7, .bool t4), (8, .slice Aa13 (l0.take (mnn (l0.length : Int) 12 : Int).toNat).length cc14), (21, .slice Aa23 (l1.take (mnn (l1.length : Int) 12 : Int).toNat).length cc24)] := hs1.keep [2, 7, 8, 21] (by kernel_rfl)
  clear hs1
  refine go_pvs 2 3 [2, 7, 8, 9] hs (L' := [(2, .int .i64 a2), (7, .bool t4), (8, .slice Aa13 (l0.take (mnn (l0.length : Int) 12 : Int).toNat).length cc14), (9, .slice Aa23 (l1.take (mnn (l1.length : Int) 12 : Int).toNat).length cc24)]) (by kernel_rfl) ?_ rfl
  clear hs; intro a hs
  refine go_end (by kernel_rfl) ?_
  refine hK18 _ _ ?_
  refine go_seq_k fun K28 hK28 => ?_
  refine go_region ?_
  refine go_pvs 0 2 [2, 7, 8, 9, 24] hs (L' := [(2, .int .i64 a2), (7, .bool t4), (8, .slice Aa13 (l0.take (mnn (l0.length : Int) 12 : Int).toNat).length cc14), (9, .slice Aa23 (l1.take (mnn (l1.length : Int) 12 : Int).toNat).length cc24), (24, .int .i64 ((l0.take (mnn (l0.length : Int) 12 : Int).toNat).length : Int))]) (by kernel_rfl) ?_ rfl
  clear hs; intro a hs
  obtain ⟨⟨t30, t31⟩, hx32, H⟩ := bind_some H
  refine go_call hs (op := (Op.call { callee := (Callee.value (Operand.func 15)), args := #[(Operand.tmp 24)], argTypes := #[3] })) (ty := 28) (dst := some 25) (g := none) (by kernel_rfl) (by kernel_rfl) (by kernel_rfl) (f := 15) (args := #[.int .i64 ((l0.take (mnn (l0.length : Int) 12 : Int).toNat).length : Int)]) (by kernel_rfl) (memory_New.calls ((l0.take (mnn (l0.length : Int) 12 : Int).toNat).length : Int) (t30, t31) _ hx32) ?_
  rintro e wd34 ⟨Aa33, rfl, hw35⟩
  refine ⟨_, rfl, ?_⟩
  replace hw := hw.call hw35
  intro a hs1
  replace hs : Slots a 118 [(2, .int .i64 a2), (7, .bool t4), (8, .slice Aa13 (l0.take (mnn (l0.length : Int) 12 : Int).toNat).length cc14), (9, .slice Aa23 (l1.take (mnn (l1.length : Int) 12 : Int).toNat).length cc24), (25, .tuple #[.pointer Aa33, .int .i64 t31])] := hs1.keep [2, 7, 8, 9, 25] (by kernel_rfl)
  clear hs1
  rcases t30 with _ | x37
  · obtain ⟨hAg, hwg⟩ := St.oM_none hw
    clear hw; subst hAg; have hw := hwg; clear hwg
    refine go_pvs 3 8 [2, 7, 8, 9, 10, 11] hs (L' := [(2, .int .i64 a2), (7, .bool t4), (8, .slice Aa13 (l0.take (mnn (l0.length : Int) 12 : Int).toNat).length cc14), (9, .slice Aa23 (l1.take (mnn (l1.length : Int) 12 : Int).toNat).length cc24), (10, .pointer none), (11, .int .i64 t31)]) (by kernel_rfl) ?_ rfl
    clear hs; intro a hs
    refine go_end (by kernel_rfl) ?_
    refine hK28 _ _ ?_
    refine go_seq_k fun K38 hK38 => ?_
    refine go_seq_k fun K39 hK39 => ?_
    have hJ1 : ∀ (a : Act) (w : World), Slots a 118 [(2, .int .i64 a2), (8, .slice Aa13 (l0.take (mnn (l0.length : Int) 12 : Int).toNat).length cc14), (9, .slice Aa23 (l1.take (mnn (l1.length : Int) 12 : Int).toNat).length cc24), (10, .pointer none), (43, .bool true)] → St [] w0 w [] → rivetlaw05_MemoryPlaces.j1 = some r → K39 a w := by
      intro a w hs hw H
      unfold rivetlaw05_MemoryPlaces.j1 at H
      refine hK39 _ _ ?_
      refine go_cond hs true (by kernel_rfl) (fun hc => ?_) (fun hc => ?_)
      · skip
        refine go_seq_k fun K41 hK41 => ?_
        refine go_region ?_
        refine go_pvs 0 1 [6] hs (L' := [(6, .bool false)]) (by kernel_rfl) ?_ rfl
        clear hs; intro a hs
        refine go_end (by kernel_rfl) ?_
        refine hK41 _ _ ?_
        refine wp_ret ?_
        refine th_ret ?_
        obtain rfl := Option.some.inj H
        refine ret1 (t := 6) (v := .bool false) hs (by kernel_rfl) (by kernel_rfl) ?_
        exact ⟨rfl, hw.only 0⟩
      · cases hc
    refine go_region ?_
    refine go_pvs 0 3 [2, 8, 9, 10, 11, 30] hs (L' := [(2, .int .i64 a2), (8, .slice Aa13 (l0.take (mnn (l0.length : Int) 12 : Int).toNat).length cc14), (9, .slice Aa23 (l1.take (mnn (l1.length : Int) 12 : Int).toNat).length cc24), (10, .pointer none), (11, .int .i64 t31), (30, .bool (!t4))]) (by kernel_rfl) ?_ rfl
    clear hs; intro a hs
    cases hb40 : (!t4)
    · replace H := ite_t H (nf hb40)
      rw [hb40] at hs
      refine go_pvs 3 16 [2, 8, 9, 10, 43] hs (L' := [(2, .int .i64 a2), (8, .slice Aa13 (l0.take (mnn (l0.length : Int) 12 : Int).toNat).length cc14), (9, .slice Aa23 (l1.take (mnn (l1.length : Int) 12 : Int).toNat).length cc24), (10, .pointer none), (43, .bool true)]) (by kernel_rfl) ?_ rfl
      clear hs; intro a hs
      refine go_end (by kernel_rfl) ?_
      replace hw := hw.only 0
      exact hJ1 _ _ (hs.keep [2, 8, 9, 10, 43] (by kernel_rfl)) hw H
    · replace H := ite_f H (ff (nt hb40))
      rw [hb40] at hs
      refine go_pvs 3 16 [2, 8, 9, 10, 43] hs (L' := [(2, .int .i64 a2), (8, .slice Aa13 (l0.take (mnn (l0.length : Int) 12 : Int).toNat).length cc14), (9, .slice Aa23 (l1.take (mnn (l1.length : Int) 12 : Int).toNat).length cc24), (10, .pointer none), (43, .bool true)]) (by kernel_rfl) ?_ rfl
      clear hs; intro a hs
      refine go_end (by kernel_rfl) ?_
      replace hw := hw.only 0
      exact hJ1 _ _ (hs.keep [2, 8, 9, 10, 43] (by kernel_rfl)) hw H
  · replace hw : St [] w0 _ [mSmemory_Memory Aa33 x37] := hw
    obtain ⟨g42, hAg, hwg⟩ := St.one hw
    clear hw; subst hAg; have hw := hwg; clear hwg
    refine go_pvs 3 8 [2, 7, 8, 9, 10, 11] hs (L' := [(2, .int .i64 a2), (7, .bool t4), (8, .slice Aa13 (l0.take (mnn (l0.length : Int) 12 : Int).toNat).length cc14), (9, .slice Aa23 (l1.take (mnn (l1.length : Int) 12 : Int).toNat).length cc24), (10, .pointer (some (⟨g42, 0, none⟩ : Addr))), (11, .int .i64 t31)]) (by kernel_rfl) ?_ rfl
    clear hs; intro a hs
    refine go_end (by kernel_rfl) ?_
    refine hK28 _ _ ?_
    refine go_seq_k fun K43 hK43 => ?_
    have hJ3 : ∀ (v58 : Smemory_Memory) (a : Act) (w : World), Slots a 118 [(2, .int .i64 a2), (8, .slice Aa13 (l0.take (mnn (l0.length : Int) 12 : Int).toNat).length cc14), (9, .slice Aa23 (l1.take (mnn (l1.length : Int) 12 : Int).toNat).length cc24), (10, .pointer (some (⟨g42, 0, none⟩ : Addr)))] → St [] w0 w [own 68 eSmemory_Memory (some (⟨g42, 0, none⟩ : Addr)) 1 [v58]] → rivetlaw05_MemoryPlaces.j3 a2 l0 l1 v58 = some r → K43 a w := by
      intro v58 a w hs hw H
      unfold rivetlaw05_MemoryPlaces.j3 at H
      refine hK43 _ _ ?_
      refine go_seq_k fun K59 hK59 => ?_
      have hJ4 : ∀ (v62 : Bool) (a : Act) (w : World), Slots a 118 [(2, .int .i64 a2), (8, .slice Aa13 (l0.take (mnn (l0.length : Int) 12 : Int).toNat).length cc14), (9, .slice Aa23 (l1.take (mnn (l1.length : Int) 12 : Int).toNat).length cc24), (10, .pointer (some (⟨g42, 0, none⟩ : Addr))), (12, .bool v62)] → St [] w0 w [own 68 eSmemory_Memory (some (⟨g42, 0, none⟩ : Addr)) 1 [v58]] → rivetlaw05_MemoryPlaces.j4 v58 a2 l1 l0 v62 = some r → K59 a w := by
        intro v62 a w hs hw H
        unfold rivetlaw05_MemoryPlaces.j4 at H
        refine hK59 _ _ ?_
        refine go_seq_k fun K63 hK63 => ?_
        refine go_region ?_
        refine go_pvs 0 3 [2, 8, 9, 10, 12, 61, 62, 63] hs (L' := [(2, .int .i64 a2), (8, .slice Aa13 (l0.take (mnn (l0.length : Int) 12 : Int).toNat).length cc14), (9, .slice Aa23 (l1.take (mnn (l1.length : Int) 12 : Int).toNat).length cc24), (10, .pointer (some (⟨g42, 0, none⟩ : Addr))), (12, .bool v62), (61, .pointer (some (⟨g42, 0, none⟩ : Addr))), (62, .int .i64 a2), (63, .slice Aa23 (l1.take (mnn (l1.length : Int) 12 : Int).toNat).length cc24)]) (by kernel_rfl) ?_ rfl
        clear hs; intro a hs
        obtain ⟨ks64, hgks64, hstks64, hbkks64⟩ := hw.lend 1
        obtain ⟨⟨t65, t66⟩, hx67, H⟩ := bind_some H
        refine go_call hs (op := (Op.call { callee := (Callee.value (Operand.func 16)), args := #[(Operand.tmp 61), (Operand.tmp 62), (Operand.tmp 63)], argTypes := #[26, 3, 22] })) (ty := 27) (dst := some 64) (g := none) (by kernel_rfl) (by kernel_rfl) (by kernel_rfl) (f := 16) (args := #[.pointer (some (⟨g42, 0, none⟩ : Addr)), .int .i64 a2, .slice Aa23 (l1.take (mnn (l1.length : Int) 12 : Int).toNat).length cc24]) (by kernel_rfl) (memory_Memory_Place.calls ks64 (some (⟨g42, 0, none⟩ : Addr)) v58 a2 Aa23 cc24 (l1.take (mnn (l1.length : Int) 12 : Int).toNat) (t65, t66) _ hgks64 (fun wz hkz => (hc26 _ (hr1.old (hstks64 _ hkz)))) hx67) ?_
        rintro e wd68 ⟨rfl, hw69⟩
        refine ⟨_, rfl, ?_⟩
        replace hw := hbkks64 _ _ hw69
        replace hw : St [] w0 _ [own 68 eSmemory_Memory (some (⟨g42, 0, none⟩ : Addr)) 1 [t66]] := hw
        intro a hs1
        replace hs : Slots a 118 [(2, .int .i64 a2), (8, .slice Aa13 (l0.take (mnn (l0.length : Int) 12 : Int).toNat).length cc14), (9, .slice Aa23 (l1.take (mnn (l1.length : Int) 12 : Int).toNat).length cc24), (10, .pointer (some (⟨g42, 0, none⟩ : Addr))), (12, .bool v62), (64, .int .i64 t65)] := hs1.keep [2, 8, 9, 10, 12, 64] (by kernel_rfl)
        clear hs1
        refine go_pvs 4 5 [2, 8, 9, 10, 12, 13] hs (L' := [(2, .int .i64 a2), (8, .slice Aa13 (l0.take (mnn (l0.length : Int) 12 : Int).toNat).length cc14), (9, .slice Aa23 (l1.take (mnn (l1.length : Int) 12 : Int).toNat).length cc24), (10, .pointer (some (⟨g42, 0, none⟩ : Addr))), (12, .bool v62), (13, .int .i64 t65)]) (by kernel_rfl) ?_ rfl
        clear hs; intro a hs
        refine go_end (by kernel_rfl) ?_
        refine hK63 _ _ ?_
        refine go_seq_k fun K70 hK70 => ?_
        refine go_region ?_
        refine go_pvs 0 1 [2, 8, 9, 12, 13, 65] hs (L' := [(2, .int .i64 a2), (8, .slice Aa13 (l0.take (mnn (l0.length : Int) 12 : Int).toNat).length cc14), (9, .slice Aa23 (l1.take (mnn (l1.length : Int) 12 : Int).toNat).length cc24), (12, .bool v62), (13, .int .i64 t65), (65, .pointer (some (⟨g42, 0, none⟩ : Addr)))]) (by kernel_rfl) ?_ rfl
        clear hs; intro a hs
        obtain ⟨ks71, hgks71, hstks71, hbkks71⟩ := hw.lend 1
        obtain ⟨⟨t72, t73⟩, hx74, H⟩ := bind_some H
        refine go_call hs (op := (Op.call { callee := (Callee.value (Operand.func 17)), args := #[(Operand.tmp 65)], argTypes := #[26] })) (ty := 22) (dst := some 66) (g := none) (by kernel_rfl) (by kernel_rfl) (by kernel_rfl) (f := 17) (args := #[.pointer (some (⟨g42, 0, none⟩ : Addr))]) (by kernel_rfl) (memory_Memory_Words.calls ks71 (some (⟨g42, 0, none⟩ : Addr)) t66 (t72, t73) _ hgks71 hx74) ?_
        rintro e wd77 ⟨Aa75, cc76, rfl, hw78⟩
        refine ⟨_, rfl, ?_⟩
        replace hw := hbkks71 _ _ hw78
        replace hw := hw.up 1
        replace hw : St [] w0 _ [own 68 eSmemory_Memory (some (⟨g42, 0, none⟩ : Addr)) 1 [t73], own 23 (eI .u32) Aa75 cc76 t72] := hw
        intro a hs1
        replace hs : Slots a 118 [(2, .int .i64 a2), (8, .slice Aa13 (l0.take (mnn (l0.length : Int) 12 : Int).toNat).length cc14), (9, .slice Aa23 (l1.take (mnn (l1.length : Int) 12 : Int).toNat).length cc24), (12, .bool v62), (13, .int .i64 t65), (66, .slice Aa75 t72.length cc76)] := hs1.keep [2, 8, 9, 12, 13, 66] (by kernel_rfl)
        clear hs1
        refine go_pvs 2 3 [2, 8, 9, 12, 13, 14] hs (L' := [(2, .int .i64 a2), (8, .slice Aa13 (l0.take (mnn (l0.length : Int) 12 : Int).toNat).length cc14), (9, .slice Aa23 (l1.take (mnn (l1.length : Int) 12 : Int).toNat).length cc24), (12, .bool v62), (13, .int .i64 t65), (14, .slice Aa75 t72.length cc76)]) (by kernel_rfl) ?_ rfl
        clear hs; intro a hs
        refine go_end (by kernel_rfl) ?_
        refine hK70 _ _ ?_
        refine go_seq_k fun K80 hK80 => ?_
        refine go_seq_k fun K81 hK81 => ?_
        refine go_region ?_
        refine go_pvs 0 2 [2, 8, 9, 13, 14, 68] hs (L' := [(2, .int .i64 a2), (8, .slice Aa13 (l0.take (mnn (l0.length : Int) 12 : Int).toNat).length cc14), (9, .slice Aa23 (l1.take (mnn (l1.length : Int) 12 : Int).toNat).length cc24), (13, .int .i64 t65), (14, .slice Aa75 t72.length cc76), (68, .bool (!v62))]) (by kernel_rfl) ?_ rfl
        clear hs; intro a hs
        refine go_end (by kernel_rfl) ?_
        refine hK81 _ _ ?_
        refine go_cond hs (!v62) (by kernel_rfl) (fun hc => ?_) (fun hc => ?_)
        · replace H := ite_f H (ff (nt hc))
          have hb82 := hc
          rw [hb82] at hs
          refine go_seq_k fun K83 hK83 => ?_
          have hJ5 : ∀ (v90 : Bool) (a : Act) (w : World), Slots a 118 [(6, .bool v90)] → St [] w0 w [own 68 eSmemory_Memory (some (⟨g42, 0, none⟩ : Addr)) 1 [t73], own 23 (eI .u32) Aa75 cc76 t72] → rivetlaw05_MemoryPlaces.j5 v90 = some r → K83 a w := by
            intro v90 a w hs hw H
            unfold rivetlaw05_MemoryPlaces.j5 at H
            refine hK83 _ _ ?_
            refine wp_ret ?_
            refine th_ret ?_
            obtain rfl := Option.some.inj H
            refine ret1 (t := 6) (v := .bool v90) hs (by kernel_rfl) (by kernel_rfl) ?_
            exact ⟨rfl, hw.only 0⟩
          refine go_region ?_
          refine go_pvs 0 3 [8, 14, 71] hs (L' := [(8, .slice Aa13 (l0.take (mnn (l0.length : Int) 12 : Int).toNat).length cc14), (14, .slice Aa75 t72.length cc76), (71, .bool (t65 == 11))]) (by kernel_rfl) ?_ rfl
          clear hs; intro a hs
          cases hb84 : (t65 == 11)
          · replace H := ite_f H (beq_eq_false_iff_ne.1 hb84)
            rw [hb84] at hs
            refine go_pvs 3 8 [6] hs (L' := [(6, .bool false)]) (by kernel_rfl) ?_ rfl
            clear hs; intro a hs
            refine go_end (by kernel_rfl) ?_
            replace hw := hw.up 1
            replace hw := hw.up 1
            replace hw := hw.only 2
            exact hJ5 false _ _ (hs.keep [6] (by kernel_rfl)) hw H
          · replace H := ite_t H (beq_iff_eq.1 hb84)
            rw [hb84] at hs
            refine go_pvs 3 5 [71, 72, 73] hs (L' := [(71, .bool true), (72, .slice Aa75 t72.length cc76), (73, .slice Aa13 (l0.take (mnn (l0.length : Int) 12 : Int).toNat).length cc14)]) (by kernel_rfl) ?_ rfl
            clear hs; intro a hs
            obtain ⟨t86, hx87, H⟩ := bind_some H
            refine go_call hs (op := (Op.call { callee := (Callee.value (Operand.func 18)), args := #[(Operand.tmp 72), (Operand.tmp 73)], argTypes := #[22, 22] })) (ty := 4) (dst := some 74) (g := some (2, true)) (by kernel_rfl) (by kernel_rfl) (by kernel_rfl) (f := 18) (args := #[.slice Aa75 t72.length cc76, .slice Aa13 (l0.take (mnn (l0.length : Int) 12 : Int).toNat).length cc14]) (by kernel_rfl) (rivetref05_Same.calls Aa75 cc76 t72 Aa13 cc14 (l0.take (mnn (l0.length : Int) 12 : Int).toNat) t86 _ (Rd.of_own (hw.up 1)) (hc16 _ (hr0.old hw)) hx87) ?_
            rintro e wd88 ⟨rfl, hw89⟩
            refine ⟨_, rfl, ?_⟩
            replace hw := hw.call hw89
            intro a hs1
            replace hs : Slots a 118 [(71, .bool true), (74, .bool t86)] := hs1.keep [71, 74] (by kernel_rfl)
            clear hs1
            refine go_pvs 6 8 [6] hs (L' := [(6, .bool t86)]) (by kernel_rfl) ?_ rfl
            clear hs; intro a hs
            refine go_end (by kernel_rfl) ?_
            replace hw := hw.up 1
            replace hw := hw.up 1
            replace hw := hw.only 2
            exact hJ5 t86 _ _ (hs.keep [6] (by kernel_rfl)) hw H
        · replace H := ite_t H (nf hc)
          have hb91 := hc
          rw [hb91] at hs
          refine wp_skip ?_
          refine hK80 _ _ ?_
          refine go_seq_k fun K92 hK92 => ?_
          have hJ7 : ∀ (a : Act) (w : World), Slots a 118 [(2, .int .i64 a2), (8, .slice Aa13 (l0.take (mnn (l0.length : Int) 12 : Int).toNat).length cc14), (9, .slice Aa23 (l1.take (mnn (l1.length : Int) 12 : Int).toNat).length cc24), (14, .slice Aa75 t72.length cc76)] → St [] w0 w [own 68 eSmemory_Memory (some (⟨g42, 0, none⟩ : Addr)) 1 [t73], own 23 (eI .u32) Aa75 cc76 t72] → rivetlaw05_MemoryPlaces.j7 t72 l0 a2 l1 = some r → K92 a w := by
            intro a w hs hw H
            unfold rivetlaw05_MemoryPlaces.j7 at H
            refine hK92 _ _ ?_
            refine go_seq_k fun K99 hK99 => ?_
            refine go_seq_k fun K100 hK100 => ?_
            refine go_region ?_
            refine go_pvs 0 1 [2, 8, 9, 14, 15] hs (L' := [(2, .int .i64 a2), (8, .slice Aa13 (l0.take (mnn (l0.length : Int) 12 : Int).toNat).length cc14), (9, .slice Aa23 (l1.take (mnn (l1.length : Int) 12 : Int).toNat).length cc24), (14, .slice Aa75 t72.length cc76), (15, .int .i64 0)]) (by kernel_rfl) ?_ rfl
            clear hs; intro a hs
            refine go_end (by kernel_rfl) ?_
            refine hK100 _ _ ?_
            refine wp_block ?_
            obtain ⟨e101, hl101, HX101⟩ := bind_some H
            have hJ11 : ∀ (a : Act) (w : World), Slots a 118 [] → St [] w0 w [own 68 eSmemory_Memory (some (⟨g42, 0, none⟩ : Addr)) 1 [t73], own 23 (eI .u32) Aa75 cc76 t72] → rivetlaw05_MemoryPlaces.j11 = some r → K99 a w := by
              intro a w hs hw H
              unfold rivetlaw05_MemoryPlaces.j11 at H
              refine hK99 _ _ ?_
              refine go_seq_k fun K128 hK128 => ?_
              refine go_region ?_
              refine go_pvs 0 1 [6] hs (L' := [(6, .bool true)]) (by kernel_rfl) ?_ rfl
              clear hs; intro a hs
              refine go_end (by kernel_rfl) ?_
              refine hK128 _ _ ?_
              refine wp_ret ?_
              obtain rfl := Option.some.inj H
              refine ret1 (t := 6) (v := .bool true) hs (by kernel_rfl) (by kernel_rfl) ?_
              exact ⟨rfl, hw.only 0⟩
            clear H
            refine go_loop (σ := Int) (fun σ a w => Slots a 118 [(2, .int .i64 a2), (8, .slice Aa13 (l0.take (mnn (l0.length : Int) 12 : Int).toNat).length cc14), (9, .slice Aa23 (l1.take (mnn (l1.length : Int) 12 : Int).toNat).length cc24), (14, .slice Aa75 t72.length cc76), (15, .int .i64 σ)] ∧ St [] w0 w [own 68 eSmemory_Memory (some (⟨g42, 0, none⟩ : Addr)) 1 [t73], own 23 (eI .u32) Aa75 cc76 t72]) hl101 (by exact ⟨hs.keep [2, 8, 9, 14, 15] (by kernel_rfl), hw⟩) ?_
            rintro v102 a w ⟨hs, hw⟩ o H hr101
            replace hs : Slots a 118 [(2, .int .i64 a2), (8, .slice Aa13 (l0.take (mnn (l0.length : Int) 12 : Int).toNat).length cc14), (9, .slice Aa23 (l1.take (mnn (l1.length : Int) 12 : Int).toNat).length cc24), (14, .slice Aa75 t72.length cc76), (15, .int .i64 v102)] := hs
            replace hw : St [] w0 w [own 68 eSmemory_Memory (some (⟨g42, 0, none⟩ : Addr)) 1 [t73], own 23 (eI .u32) Aa75 cc76 t72] := hw
            replace H : rivetlaw05_MemoryPlaces.b101 t72 l0 a2 l1 v102 = some o := H
            unfold rivetlaw05_MemoryPlaces.b101 at H
            refine go_seq_k fun K103 hK103 => ?_
            refine go_seq_k fun K104 hK104 => ?_
            refine go_region ?_
            refine go_pvs 0 4 [2, 8, 9, 14, 15, 88] hs (L' := [(2, .int .i64 a2), (8, .slice Aa13 (l0.take (mnn (l0.length : Int) 12 : Int).toNat).length cc14), (9, .slice Aa23 (l1.take (mnn (l1.length : Int) 12 : Int).toNat).length cc24), (14, .slice Aa75 t72.length cc76), (15, .int .i64 v102), (88, .bool (decide (v102 < (t72.length : Int))))]) (by kernel_rfl) ?_ rfl
            clear hs; intro a hs
            refine go_end (by kernel_rfl) ?_
            refine hK104 _ _ ?_
            refine go_cond hs (decide (v102 < (t72.length : Int))) (by kernel_rfl) (fun hc => ?_) (fun hc => ?_)
            · replace H := ite_t H (of_decide_eq_true hc)
              have hb105 := hc
              rw [hb105] at hs
              refine wp_skip ?_
              refine hK103 _ _ ?_
              refine go_seq_k fun K106 hK106 => ?_
              have hJ10 : ∀ (a : Act) (w : World), Slots a 118 [(2, .int .i64 a2), (8, .slice Aa13 (l0.take (mnn (l0.length : Int) 12 : Int).toNat).length cc14), (9, .slice Aa23 (l1.take (mnn (l1.length : Int) 12 : Int).toNat).length cc24), (14, .slice Aa75 t72.length cc76), (15, .int .i64 v102)] → St [] w0 w [own 68 eSmemory_Memory (some (⟨g42, 0, none⟩ : Addr)) 1 [t73], own 23 (eI .u32) Aa75 cc76 t72] → rivetlaw05_MemoryPlaces.j10 v102 = some o → K106 a w := by
                intro a w hs hw H
                unfold rivetlaw05_MemoryPlaces.j10 at H
                refine hK106 _ _ ?_
                refine go_region ?_
                refine go_pvs 0 3 [2, 8, 9, 14, 15] hs (L' := [(2, .int .i64 a2), (8, .slice Aa13 (l0.take (mnn (l0.length : Int) 12 : Int).toNat).length cc14), (9, .slice Aa23 (l1.take (mnn (l1.length : Int) 12 : Int).toNat).length cc24), (14, .slice Aa75 t72.length cc76), (15, .int .i64 (w64 (v102 + 1)))]) (by kernel_rfl) ?_ rfl
                clear hs; intro a hs
                refine go_end (by kernel_rfl) ?_
                replace hw := hw.up 1
                replace hw := hw.up 1
                replace hw := hw.only 2
                exact round_end (w64 (v102 + 1)) (Option.some.inj H).symm ⟨hs.keep [2, 8, 9, 14, 15] (by kernel_rfl), hw⟩
              refine wp_block ?_
              refine go_seq_k fun K107 hK107 => ?_
              refine go_region ?_
              refine go_pvs 0 2 [2, 8, 9, 14, 15, 91, 92] hs (L' := [(2, .int .i64 a2), (8, .slice Aa13 (l0.take (mnn (l0.length : Int) 12 : Int).toNat).length cc14), (9, .slice Aa23 (l1.take (mnn (l1.length : Int) 12 : Int).toNat).length cc24), (14, .slice Aa75 t72.length cc76), (15, .int .i64 v102), (91, .slice Aa13 (l0.take (mnn (l0.length : Int) 12 : Int).toNat).length cc14), (92, .int .i64 v102)]) (by kernel_rfl) ?_ rfl
              clear hs; intro a hs
              obtain ⟨hp108, H⟩ := ite_only H
              obtain ⟨ad109, rfl⟩ := (hc16 _ (hr0.old hw)).some hp108.1 hp108.2
              refine go_run hs (op := (Op.indexAddr 22 (Operand.tmp 91) (Operand.tmp 92))) (ty := 0) (dst := some 93) (g := none) (by kernel_rfl) (by kernel_rfl) (by kernel_rfl) (x_idx (T := 23) (sz := 1) (a := ad109) (n := (l0.take (mnn (l0.length : Int) 12 : Int).toNat).length) (cap := cc14) (k := .i64) (i := v102) (by kernel_rfl) (by kernel_rfl) (by kernel_rfl) (by kernel_rfl) hp108.1 hp108.2) [2, 8, 9, 14, 15, 93] (L' := [(2, .int .i64 a2), (8, .slice (some ad109) (l0.take (mnn (l0.length : Int) 12 : Int).toNat).length cc14), (9, .slice Aa23 (l1.take (mnn (l1.length : Int) 12 : Int).toNat).length cc24), (14, .slice Aa75 t72.length cc76), (15, .int .i64 v102), (93, .pointer (some (ad109.add (v102.toNat * 1))))]) (by kernel_rfl) ?_
              clear hs; intro a hs
              refine go_run hs (op := (Op.load 23 (Operand.tmp 93))) (ty := 23) (dst := some 94) (g := none) (by kernel_rfl) (by kernel_rfl) (by kernel_rfl) (x_ld (E := (eI .u32)) (off := 0) (p := ad109.add (v102.toNat * 1)) (v := .int .u32 (ix (eI .u32).d (l0.take (mnn (l0.length : Int) 12 : Int).toNat) v102)) (hc16 _ (hr0.old hw)) hp108.1 hp108.2 (by kernel_rfl) rfl (by kernel_rfl) (by kernel_rfl)) [2, 8, 9, 14, 15, 94] (L' := [(2, .int .i64 a2), (8, .slice (some ad109) (l0.take (mnn (l0.length : Int) 12 : Int).toNat).length cc14), (9, .slice Aa23 (l1.take (mnn (l1.length : Int) 12 : Int).toNat).length cc24), (14, .slice Aa75 t72.length cc76), (15, .int .i64 v102), (94, .int .u32 (ix (eI .u32).d (l0.take (mnn (l0.length : Int) 12 : Int).toNat) v102))]) (by kernel_rfl) ?_
              clear hs; intro a hs
              refine go_pvs 4 5 [2, 8, 9, 14, 15, 16] hs (L' := [(2, .int .i64 a2), (8, .slice (some ad109) (l0.take (mnn (l0.length : Int) 12 : Int).toNat).length cc14), (9, .slice Aa23 (l1.take (mnn (l1.length : Int) 12 : Int).toNat).length cc24), (14, .slice Aa75 t72.length cc76), (15, .int .i64 v102), (16, .int .u32 (ix (eI .u32).d (l0.take (mnn (l0.length : Int) 12 : Int).toNat) v102))]) (by kernel_rfl) ?_ rfl
              clear hs; intro a hs
              obtain ⟨y110, hy110, H⟩ := nm_some H
              replace hs : Slots a 118 [(2, .int .i64 a2), (8, .slice (some ad109) (l0.take (mnn (l0.length : Int) 12 : Int).toNat).length cc14), (9, .slice Aa23 (l1.take (mnn (l1.length : Int) 12 : Int).toNat).length cc24), (14, .slice Aa75 t72.length cc76), (15, .int .i64 v102), (16, .int .u32 y110)] := by rw [hy110]; exact hs
              refine go_end (by kernel_rfl) ?_
              refine hK107 _ _ ?_
              refine go_seq_k fun K111 hK111 => ?_
              have hJ9 : ∀ (v120 : Int) (a : Act) (w : World), Slots a 118 [(2, .int .i64 a2), (8, .slice (some ad109) (l0.take (mnn (l0.length : Int) 12 : Int).toNat).length cc14), (9, .slice Aa23 (l1.take (mnn (l1.length : Int) 12 : Int).toNat).length cc24), (14, .slice Aa75 t72.length cc76), (15, .int .i64 v102), (16, .int .u32 v120)] → St [] w0 w [own 68 eSmemory_Memory (some (⟨g42, 0, none⟩ : Addr)) 1 [t73], own 23 (eI .u32) Aa75 cc76 t72] → rivetlaw05_MemoryPlaces.j9 v102 t72 v120 = some o → K111 a w := by
                intro v120 a w hs hw H
                unfold rivetlaw05_MemoryPlaces.j9 at H
                refine hK111 _ _ ?_
                refine go_seq_k fun K121 hK121 => ?_
                refine go_region ?_
                refine go_pvs 0 2 [2, 8, 9, 14, 15, 16, 112, 113] hs (L' := [(2, .int .i64 a2), (8, .slice (some ad109) (l0.take (mnn (l0.length : Int) 12 : Int).toNat).length cc14), (9, .slice Aa23 (l1.take (mnn (l1.length : Int) 12 : Int).toNat).length cc24), (14, .slice Aa75 t72.length cc76), (15, .int .i64 v102), (16, .int .u32 v120), (112, .slice Aa75 t72.length cc76), (113, .int .i64 v102)]) (by kernel_rfl) ?_ rfl
                clear hs; intro a hs
                obtain ⟨hp122, H⟩ := ite_only H
                obtain ⟨ad123, rfl⟩ := (Rd.of_own (hw.up 1)).some hp122.1 hp122.2
                refine go_run hs (op := (Op.indexAddr 22 (Operand.tmp 112) (Operand.tmp 113))) (ty := 0) (dst := some 114) (g := none) (by kernel_rfl) (by kernel_rfl) (by kernel_rfl) (x_idx (T := 23) (sz := 1) (a := ad123) (n := t72.length) (cap := cc76) (k := .i64) (i := v102) (by kernel_rfl) (by kernel_rfl) (by kernel_rfl) (by kernel_rfl) hp122.1 hp122.2) [2, 8, 9, 14, 15, 16, 114] (L' := [(2, .int .i64 a2), (8, .slice (some ad109) (l0.take (mnn (l0.length : Int) 12 : Int).toNat).length cc14), (9, .slice Aa23 (l1.take (mnn (l1.length : Int) 12 : Int).toNat).length cc24), (14, .slice (some ad123) t72.length cc76), (15, .int .i64 v102), (16, .int .u32 v120), (114, .pointer (some (ad123.add (v102.toNat * 1))))]) (by kernel_rfl) ?_
                clear hs; intro a hs
                refine go_run hs (op := (Op.load 23 (Operand.tmp 114))) (ty := 23) (dst := some 115) (g := none) (by kernel_rfl) (by kernel_rfl) (by kernel_rfl) (x_ld (E := (eI .u32)) (off := 0) (p := ad123.add (v102.toNat * 1)) (v := .int .u32 (ix (eI .u32).d t72 v102)) (Rd.of_own (hw.up 1)) hp122.1 hp122.2 (by kernel_rfl) rfl (by kernel_rfl) (by kernel_rfl)) [2, 8, 9, 14, 15, 16, 115] (L' := [(2, .int .i64 a2), (8, .slice (some ad109) (l0.take (mnn (l0.length : Int) 12 : Int).toNat).length cc14), (9, .slice Aa23 (l1.take (mnn (l1.length : Int) 12 : Int).toNat).length cc24), (14, .slice (some ad123) t72.length cc76), (15, .int .i64 v102), (16, .int .u32 v120), (115, .int .u32 (ix (eI .u32).d t72 v102))]) (by kernel_rfl) ?_
                clear hs; intro a hs
                refine go_pvs 4 6 [2, 8, 9, 14, 15, 117] hs (L' := [(2, .int .i64 a2), (8, .slice (some ad109) (l0.take (mnn (l0.length : Int) 12 : Int).toNat).length cc14), (9, .slice Aa23 (l1.take (mnn (l1.length : Int) 12 : Int).toNat).length cc24), (14, .slice (some ad123) t72.length cc76), (15, .int .i64 v102), (117, .bool ((ix (eI .u32).d t72 v102) != v120))]) (by kernel_rfl) ?_ rfl
                clear hs; intro a hs
                refine go_end (by kernel_rfl) ?_
                refine hK121 _ _ ?_
                refine go_cond hs ((ix (eI .u32).d t72 v102) != v120) (by kernel_rfl) (fun hc => ?_) (fun hc => ?_)
                · replace H := ite_f H (bne_iff_ne.1 hc)
                  have hb124 := hc
                  rw [hb124] at hs
                  refine go_seq_k fun K125 hK125 => ?_
                  refine go_region ?_
                  refine go_pvs 0 1 [6] hs (L' := [(6, .bool false)]) (by kernel_rfl) ?_ rfl
                  clear hs; intro a hs
                  refine go_end (by kernel_rfl) ?_
                  refine hK125 _ _ ?_
                  refine wp_ret ?_
                  refine ib_ret ?_
                  refine th_ret ?_
                  refine th_ret ?_
                  refine ib_ret ?_
                  refine th_ret ?_
                  rw [← hr101 _ (Option.some.inj H).symm] at HX101
                  replace H : some false = some r := HX101
                  obtain rfl := Option.some.inj H
                  refine ret1 (t := 6) (v := .bool false) hs (by kernel_rfl) (by kernel_rfl) ?_
                  exact ⟨rfl, hw.only 0⟩
                · replace H := ite_t H (bne_eq_false_iff_eq.1 hc)
                  have hb126 := hc
                  rw [hb126] at hs
                  refine wp_skip ?_
                  refine ib_norm ?_
                  replace hw := hw.up 1
                  replace hw := hw.up 1
                  replace hw := hw.only 2
                  exact hJ10 _ _ (hs.keep [2, 8, 9, 14, 15] (by kernel_rfl)) hw H
              refine go_seq_k fun K112 hK112 => ?_
              have hJ8 : ∀ (v114 : Bool) (a : Act) (w : World), Slots a 118 [(2, .int .i64 a2), (8, .slice (some ad109) (l0.take (mnn (l0.length : Int) 12 : Int).toNat).length cc14), (9, .slice Aa23 (l1.take (mnn (l1.length : Int) 12 : Int).toNat).length cc24), (14, .slice Aa75 t72.length cc76), (15, .int .i64 v102), (16, .int .u32 y110), (105, .bool v114)] → St [] w0 w [own 68 eSmemory_Memory (some (⟨g42, 0, none⟩ : Addr)) 1 [t73], own 23 (eI .u32) Aa75 cc76 t72] → rivetlaw05_MemoryPlaces.j8 v102 a2 l1 t72 y110 v114 = some o → K112 a w := by
                intro v114 a w hs hw H
                unfold rivetlaw05_MemoryPlaces.j8 at H
                refine hK112 _ _ ?_
                refine go_cond hs v114 (by kernel_rfl) (fun hc => ?_) (fun hc => ?_)
                · replace H := ite_t H hc
                  have hb115 := hc
                  rw [hb115] at hs
                  refine go_region ?_
                  refine go_pvs 0 4 [2, 8, 9, 14, 15, 106, 109] hs (L' := [(2, .int .i64 a2), (8, .slice (some ad109) (l0.take (mnn (l0.length : Int) 12 : Int).toNat).length cc14), (9, .slice Aa23 (l1.take (mnn (l1.length : Int) 12 : Int).toNat).length cc24), (14, .slice Aa75 t72.length cc76), (15, .int .i64 v102), (106, .slice Aa23 (l1.take (mnn (l1.length : Int) 12 : Int).toNat).length cc24), (109, .int .i64 (w64 (v102 - a2)))]) (by kernel_rfl) ?_ rfl
                  clear hs; intro a hs
                  obtain ⟨hp116, H⟩ := ite_only H
                  obtain ⟨ad117, rfl⟩ := (hc26 _ (hr1.old hw)).some hp116.1 hp116.2
                  refine go_run hs (op := (Op.indexAddr 22 (Operand.tmp 106) (Operand.tmp 109))) (ty := 0) (dst := some 110) (g := none) (by kernel_rfl) (by kernel_rfl) (by kernel_rfl) (x_idx (T := 23) (sz := 1) (a := ad117) (n := (l1.take (mnn (l1.length : Int) 12 : Int).toNat).length) (cap := cc24) (k := .i64) (i := (w64 (v102 - a2))) (by kernel_rfl) (by kernel_rfl) (by kernel_rfl) (by kernel_rfl) hp116.1 hp116.2) [2, 8, 9, 14, 15, 110] (L' := [(2, .int .i64 a2), (8, .slice (some ad109) (l0.take (mnn (l0.length : Int) 12 : Int).toNat).length cc14), (9, .slice (some ad117) (l1.take (mnn (l1.length : Int) 12 : Int).toNat).length cc24), (14, .slice Aa75 t72.length cc76), (15, .int .i64 v102), (110, .pointer (some (ad117.add ((w64 (v102 - a2)).toNat * 1))))]) (by kernel_rfl) ?_
                  clear hs; intro a hs
                  refine go_run hs (op := (Op.load 23 (Operand.tmp 110))) (ty := 23) (dst := some 111) (g := none) (by kernel_rfl) (by kernel_rfl) (by kernel_rfl) (x_ld (E := (eI .u32)) (off := 0) (p := ad117.add ((w64 (v102 - a2)).toNat * 1)) (v := .int .u32 (ix (eI .u32).d (l1.take (mnn (l1.length : Int) 12 : Int).toNat) (w64 (v102 - a2)))) (hc26 _ (hr1.old hw)) hp116.1 hp116.2 (by kernel_rfl) rfl (by kernel_rfl) (by kernel_rfl)) [2, 8, 9, 14, 15, 111] (L' := [(2, .int .i64 a2), (8, .slice (some ad109) (l0.take (mnn (l0.length : Int) 12 : Int).toNat).length cc14), (9, .slice (some ad117) (l1.take (mnn (l1.length : Int) 12 : Int).toNat).length cc24), (14, .slice Aa75 t72.length cc76), (15, .int .i64 v102), (111, .int .u32 (ix (eI .u32).d (l1.take (mnn (l1.length : Int) 12 : Int).toNat) (w64 (v102 - a2))))]) (by kernel_rfl) ?_
                  clear hs; intro a hs
                  refine go_pvs 6 7 [2, 8, 9, 14, 15, 16] hs (L' := [(2, .int .i64 a2), (8, .slice (some ad109) (l0.take (mnn (l0.length : Int) 12 : Int).toNat).length cc14), (9, .slice (some ad117) (l1.take (mnn (l1.length : Int) 12 : Int).toNat).length cc24), (14, .slice Aa75 t72.length cc76), (15, .int .i64 v102), (16, .int .u32 (ix (eI .u32).d (l1.take (mnn (l1.length : Int) 12 : Int).toNat) (w64 (v102 - a2))))]) (by kernel_rfl) ?_ rfl
                  clear hs; intro a hs
                  obtain ⟨y118, hy118, H⟩ := nm_some H
                  replace hs : Slots a 118 [(2, .int .i64 a2), (8, .slice (some ad109) (l0.take (mnn (l0.length : Int) 12 : Int).toNat).length cc14), (9, .slice (some ad117) (l1.take (mnn (l1.length : Int) 12 : Int).toNat).length cc24), (14, .slice Aa75 t72.length cc76), (15, .int .i64 v102), (16, .int .u32 y118)] := by rw [hy118]; exact hs
                  refine go_end (by kernel_rfl) ?_
                  replace hw := hw.up 1
                  replace hw := hw.up 1
                  replace hw := hw.only 2
                  exact hJ9 y118 _ _ (hs.keep [2, 8, 9, 14, 15, 16] (by kernel_rfl)) hw H
                · replace H := ite_f H (ff hc)
                  have hb119 := hc
                  rw [hb119] at hs
                  refine wp_skip ?_
                  replace hw := hw.up 1
                  replace hw := hw.up 1
                  replace hw := hw.only 2
                  exact hJ9 y110 _ _ (hs.keep [2, 8, 9, 14, 15, 16] (by kernel_rfl)) hw H
              refine go_region ?_
              refine go_pvs 0 4 [2, 8, 9, 14, 15, 16, 98] hs (L' := [(2, .int .i64 a2), (8, .slice (some ad109) (l0.take (mnn (l0.length : Int) 12 : Int).toNat).length cc14), (9, .slice Aa23 (l1.take (mnn (l1.length : Int) 12 : Int).toNat).length cc24), (14, .slice Aa75 t72.length cc76), (15, .int .i64 v102), (16, .int .u32 y110), (98, .bool (decide (v102 ≥ a2)))]) (by kernel_rfl) ?_ rfl
              clear hs; intro a hs
              cases hb113 : (decide (v102 ≥ a2))
              · replace H := ite_f H (of_decide_eq_false hb113)
                rw [hb113] at hs
                refine go_pvs 4 11 [2, 8, 9, 14, 15, 16, 105] hs (L' := [(2, .int .i64 a2), (8, .slice (some ad109) (l0.take (mnn (l0.length : Int) 12 : Int).toNat).length cc14), (9, .slice Aa23 (l1.take (mnn (l1.length : Int) 12 : Int).toNat).length cc24), (14, .slice Aa75 t72.length cc76), (15, .int .i64 v102), (16, .int .u32 y110), (105, .bool false)]) (by kernel_rfl) ?_ rfl
                clear hs; intro a hs
                refine go_end (by kernel_rfl) ?_
                replace hw := hw.up 1
                replace hw := hw.up 1
                replace hw := hw.only 2
                exact hJ8 false _ _ (hs.keep [2, 8, 9, 14, 15, 16, 105] (by kernel_rfl)) hw H
              · replace H := ite_t H (of_decide_eq_true hb113)
                rw [hb113] at hs
                refine go_pvs 4 11 [2, 8, 9, 14, 15, 16, 105] hs (L' := [(2, .int .i64 a2), (8, .slice (some ad109) (l0.take (mnn (l0.length : Int) 12 : Int).toNat).length cc14), (9, .slice Aa23 (l1.take (mnn (l1.length : Int) 12 : Int).toNat).length cc24), (14, .slice Aa75 t72.length cc76), (15, .int .i64 v102), (16, .int .u32 y110), (105, .bool (decide (v102 < (w64 (a2 + ((l1.take (mnn (l1.length : Int) 12 : Int).toNat).length : Int))))))]) (by kernel_rfl) ?_ rfl
                clear hs; intro a hs
                refine go_end (by kernel_rfl) ?_
                replace hw := hw.up 1
                replace hw := hw.up 1
                replace hw := hw.only 2
                exact hJ8 (decide (v102 < (w64 (a2 + ((l1.take (mnn (l1.length : Int) 12 : Int).toNat).length : Int))))) _ _ (hs.keep [2, 8, 9, 14, 15, 16, 105] (by kernel_rfl)) hw H
            · replace H := ite_f H (of_decide_eq_false hc)
              have hb127 := hc
              rw [hb127] at hs
              refine wp_exit ?_
              refine th_exit ?_
              refine th_exit ?_
              refine in_block ?_
              replace hw := hw.up 1
              replace hw := hw.up 1
              replace hw := hw.only 2
              rw [← hr101 _ (Option.some.inj H).symm] at HX101
              exact hJ11 _ _ (hs.keep [] (by kernel_rfl)) hw HX101
          refine go_seq_k fun K93 hK93 => ?_
          have hJ6 : ∀ (v95 : Bool) (a : Act) (w : World), Slots a 118 [(2, .int .i64 a2), (8, .slice Aa13 (l0.take (mnn (l0.length : Int) 12 : Int).toNat).length cc14), (9, .slice Aa23 (l1.take (mnn (l1.length : Int) 12 : Int).toNat).length cc24), (14, .slice Aa75 t72.length cc76), (84, .bool v95)] → St [] w0 w [own 68 eSmemory_Memory (some (⟨g42, 0, none⟩ : Addr)) 1 [t73], own 23 (eI .u32) Aa75 cc76 t72] → rivetlaw05_MemoryPlaces.j6 t72 l0 a2 l1 v95 = some r → K93 a w := by
            intro v95 a w hs hw H
            unfold rivetlaw05_MemoryPlaces.j6 at H
            refine hK93 _ _ ?_
            refine go_cond hs v95 (by kernel_rfl) (fun hc => ?_) (fun hc => ?_)
            · replace H := ite_t H hc
              have hb96 := hc
              rw [hb96] at hs
              refine go_seq_k fun K97 hK97 => ?_
              refine go_region ?_
              refine go_pvs 0 1 [6] hs (L' := [(6, .bool false)]) (by kernel_rfl) ?_ rfl
              clear hs; intro a hs
              refine go_end (by kernel_rfl) ?_
              refine hK97 _ _ ?_
              refine wp_ret ?_
              refine th_ret ?_
              obtain rfl := Option.some.inj H
              refine ret1 (t := 6) (v := .bool false) hs (by kernel_rfl) (by kernel_rfl) ?_
              exact ⟨rfl, hw.only 0⟩
            · replace H := ite_f H (ff hc)
              have hb98 := hc
              rw [hb98] at hs
              refine wp_skip ?_
              replace hw := hw.up 1
              replace hw := hw.up 1
              replace hw := hw.only 2
              exact hJ7 _ _ (hs.keep [2, 8, 9, 14] (by kernel_rfl)) hw H
          refine go_region ?_
          refine go_pvs 0 3 [2, 8, 9, 14, 78] hs (L' := [(2, .int .i64 a2), (8, .slice Aa13 (l0.take (mnn (l0.length : Int) 12 : Int).toNat).length cc14), (9, .slice Aa23 (l1.take (mnn (l1.length : Int) 12 : Int).toNat).length cc24), (14, .slice Aa75 t72.length cc76), (78, .bool (t65 != 0))]) (by kernel_rfl) ?_ rfl
          clear hs; intro a hs
          cases hb94 : (t65 != 0)
          · replace H := ite_t H (bne_eq_false_iff_eq.1 hb94)
            rw [hb94] at hs
            refine go_pvs 3 9 [2, 8, 9, 14, 84] hs (L' := [(2, .int .i64 a2), (8, .slice Aa13 (l0.take (mnn (l0.length : Int) 12 : Int).toNat).length cc14), (9, .slice Aa23 (l1.take (mnn (l1.length : Int) 12 : Int).toNat).length cc24), (14, .slice Aa75 t72.length cc76), (84, .bool ((t72.length : Int) != ((l0.take (mnn (l0.length : Int) 12 : Int).toNat).length : Int)))]) (by kernel_rfl) ?_ rfl
            clear hs; intro a hs
            refine go_end (by kernel_rfl) ?_
            replace hw := hw.up 1
            replace hw := hw.up 1
            replace hw := hw.only 2
            exact hJ6 ((t72.length : Int) != ((l0.take (mnn (l0.length : Int) 12 : Int).toNat).length : Int)) _ _ (hs.keep [2, 8, 9, 14, 84] (by kernel_rfl)) hw H
          · replace H := ite_f H (bne_iff_ne.1 hb94)
            rw [hb94] at hs
            refine go_pvs 3 9 [2, 8, 9, 14, 84] hs (L' := [(2, .int .i64 a2), (8, .slice Aa13 (l0.take (mnn (l0.length : Int) 12 : Int).toNat).length cc14), (9, .slice Aa23 (l1.take (mnn (l1.length : Int) 12 : Int).toNat).length cc24), (14, .slice Aa75 t72.length cc76), (84, .bool true)]) (by kernel_rfl) ?_ rfl
            clear hs; intro a hs
            refine go_end (by kernel_rfl) ?_
            replace hw := hw.up 1
            replace hw := hw.up 1
            replace hw := hw.only 2
            exact hJ6 true _ _ (hs.keep [2, 8, 9, 14, 84] (by kernel_rfl)) hw H
      refine go_region ?_
      refine go_pvs 0 3 [2, 8, 9, 10, 46] hs (L' := [(2, .int .i64 a2), (8, .slice Aa13 (l0.take (mnn (l0.length : Int) 12 : Int).toNat).length cc14), (9, .slice Aa23 (l1.take (mnn (l1.length : Int) 12 : Int).toNat).length cc24), (10, .pointer (some (⟨g42, 0, none⟩ : Addr))), (46, .bool (decide (a2 ≥ 0)))]) (by kernel_rfl) ?_ rfl
      clear hs; intro a hs
      cases hb60 : (decide (a2 ≥ 0))
      · replace H := ite_f H (of_decide_eq_false hb60)
        rw [hb60] at hs
        refine go_pvs 3 18 [2, 8, 9, 10, 12] hs (L' := [(2, .int .i64 a2), (8, .slice Aa13 (l0.take (mnn (l0.length : Int) 12 : Int).toNat).length cc14), (9, .slice Aa23 (l1.take (mnn (l1.length : Int) 12 : Int).toNat).length cc24), (10, .pointer (some (⟨g42, 0, none⟩ : Addr))), (12, .bool false)]) (by kernel_rfl) ?_ rfl
        clear hs; intro a hs
        refine go_end (by kernel_rfl) ?_
        replace hw := hw.only 1
        exact hJ4 false _ _ (hs.keep [2, 8, 9, 10, 12] (by kernel_rfl)) hw H
      · replace H := ite_t H (of_decide_eq_true hb60)
        rw [hb60] at hs
        refine go_pvs 3 9 [2, 8, 9, 10, 52] hs (L' := [(2, .int .i64 a2), (8, .slice Aa13 (l0.take (mnn (l0.length : Int) 12 : Int).toNat).length cc14), (9, .slice Aa23 (l1.take (mnn (l1.length : Int) 12 : Int).toNat).length cc24), (10, .pointer (some (⟨g42, 0, none⟩ : Addr))), (52, .bool (decide (a2 ≤ ((l0.take (mnn (l0.length : Int) 12 : Int).toNat).length : Int))))]) (by kernel_rfl) ?_ rfl
        clear hs; intro a hs
        cases hb61 : (decide (a2 ≤ ((l0.take (mnn (l0.length : Int) 12 : Int).toNat).length : Int)))
        · replace H := ite_f H (of_decide_eq_false hb61)
          rw [hb61] at hs
          refine go_pvs 9 18 [2, 8, 9, 10, 12] hs (L' := [(2, .int .i64 a2), (8, .slice Aa13 (l0.take (mnn (l0.length : Int) 12 : Int).toNat).length cc14), (9, .slice Aa23 (l1.take (mnn (l1.length : Int) 12 : Int).toNat).length cc24), (10, .pointer (some (⟨g42, 0, none⟩ : Addr))), (12, .bool false)]) (by kernel_rfl) ?_ rfl
          clear hs; intro a hs
          refine go_end (by kernel_rfl) ?_
          replace hw := hw.only 1
          exact hJ4 false _ _ (hs.keep [2, 8, 9, 10, 12] (by kernel_rfl)) hw H
        · replace H := ite_t H (of_decide_eq_true hb61)
          rw [hb61] at hs
          refine go_pvs 9 18 [2, 8, 9, 10, 12] hs (L' := [(2, .int .i64 a2), (8, .slice Aa13 (l0.take (mnn (l0.length : Int) 12 : Int).toNat).length cc14), (9, .slice Aa23 (l1.take (mnn (l1.length : Int) 12 : Int).toNat).length cc24), (10, .pointer (some (⟨g42, 0, none⟩ : Addr))), (12, .bool (decide (((l1.take (mnn (l1.length : Int) 12 : Int).toNat).length : Int) ≤ (w64 (((l0.take (mnn (l0.length : Int) 12 : Int).toNat).length : Int) - a2)))))]) (by kernel_rfl) ?_ rfl
          clear hs; intro a hs
          refine go_end (by kernel_rfl) ?_
          replace hw := hw.only 1
          exact hJ4 (decide (((l1.take (mnn (l1.length : Int) 12 : Int).toNat).length : Int) ≤ (w64 (((l0.take (mnn (l0.length : Int) 12 : Int).toNat).length : Int) - a2)))) _ _ (hs.keep [2, 8, 9, 10, 12] (by kernel_rfl)) hw H
    refine go_seq_k fun K44 hK44 => ?_
    have hJ2 : ∀ (v53 : Smemory_Memory) (v54 : Bool) (a : Act) (w : World), Slots a 118 [(2, .int .i64 a2), (8, .slice Aa13 (l0.take (mnn (l0.length : Int) 12 : Int).toNat).length cc14), (9, .slice Aa23 (l1.take (mnn (l1.length : Int) 12 : Int).toNat).length cc24), (10, .pointer (some (⟨g42, 0, none⟩ : Addr))), (43, .bool v54)] → St [] w0 w [own 68 eSmemory_Memory (some (⟨g42, 0, none⟩ : Addr)) 1 [v53]] → rivetlaw05_MemoryPlaces.j2 a2 l0 l1 v53 v54 = some r → K44 a w := by
      intro v53 v54 a w hs hw H
      unfold rivetlaw05_MemoryPlaces.j2 at H
      refine hK44 _ _ ?_
      refine go_cond hs v54 (by kernel_rfl) (fun hc => ?_) (fun hc => ?_)
      · replace H := ite_t H hc
        have hb55 := hc
        rw [hb55] at hs
        refine go_seq_k fun K56 hK56 => ?_
        refine go_region ?_
        refine go_pvs 0 1 [6] hs (L' := [(6, .bool false)]) (by kernel_rfl) ?_ rfl
        clear hs; intro a hs
        refine go_end (by kernel_rfl) ?_
        refine hK56 _ _ ?_
        refine wp_ret ?_
        refine th_ret ?_
        obtain rfl := Option.some.inj H
        refine ret1 (t := 6) (v := .bool false) hs (by kernel_rfl) (by kernel_rfl) ?_
        exact ⟨rfl, hw.only 0⟩
      · replace H := ite_f H (ff hc)
        have hb57 := hc
        rw [hb57] at hs
        refine wp_skip ?_
        replace hw := hw.only 1
        exact hJ3 v53 _ _ (hs.keep [2, 8, 9, 10] (by kernel_rfl)) hw H
    refine go_region ?_
    refine go_pvs 0 3 [2, 8, 9, 10, 11, 30] hs (L' := [(2, .int .i64 a2), (8, .slice Aa13 (l0.take (mnn (l0.length : Int) 12 : Int).toNat).length cc14), (9, .slice Aa23 (l1.take (mnn (l1.length : Int) 12 : Int).toNat).length cc24), (10, .pointer (some (⟨g42, 0, none⟩ : Addr))), (11, .int .i64 t31), (30, .bool (!t4))]) (by kernel_rfl) ?_ rfl
    clear hs; intro a hs
    cases hb45 : (!t4)
    · replace H := ite_t H (nf hb45)
      rw [hb45] at hs
      refine go_pvs 3 11 [2, 8, 9, 10, 38] hs (L' := [(2, .int .i64 a2), (8, .slice Aa13 (l0.take (mnn (l0.length : Int) 12 : Int).toNat).length cc14), (9, .slice Aa23 (l1.take (mnn (l1.length : Int) 12 : Int).toNat).length cc24), (10, .pointer (some (⟨g42, 0, none⟩ : Addr))), (38, .bool (t31 != 0))]) (by kernel_rfl) ?_ rfl
      clear hs; intro a hs
      cases hb46 : (t31 != 0)
      · replace H := ite_t H (bne_eq_false_iff_eq.1 hb46)
        rw [hb46] at hs
        refine go_pvs 11 13 [2, 8, 9, 10, 38, 39, 40] hs (L' := [(2, .int .i64 a2), (8, .slice Aa13 (l0.take (mnn (l0.length : Int) 12 : Int).toNat).length cc14), (9, .slice Aa23 (l1.take (mnn (l1.length : Int) 12 : Int).toNat).length cc24), (10, .pointer (some (⟨g42, 0, none⟩ : Addr))), (38, .bool false), (39, .pointer (some (⟨g42, 0, none⟩ : Addr))), (40, .slice Aa13 (l0.take (mnn (l0.length : Int) 12 : Int).toNat).length cc14)]) (by kernel_rfl) ?_ rfl
        clear hs; intro a hs
        obtain ⟨ks47, hgks47, hstks47, hbkks47⟩ := hw.lend 1
        obtain ⟨⟨t48, t49⟩, hx50, H⟩ := bind_some H
        refine go_call hs (op := (Op.call { callee := (Callee.value (Operand.func 16)), args := #[(Operand.tmp 39), (Operand.const (Value.int IntKind.i64 0)), (Operand.tmp 40)], argTypes := #[26, 3, 22] })) (ty := 27) (dst := some 41) (g := some (10, false)) (by kernel_rfl) (by kernel_rfl) (by kernel_rfl) (f := 16) (args := #[.pointer (some (⟨g42, 0, none⟩ : Addr)), .int .i64 0, .slice Aa13 (l0.take (mnn (l0.length : Int) 12 : Int).toNat).length cc14]) (by kernel_rfl) (memory_Memory_Place.calls ks47 (some (⟨g42, 0, none⟩ : Addr)) x37 0 Aa13 cc14 (l0.take (mnn (l0.length : Int) 12 : Int).toNat) (t48, t49) _ hgks47 (fun wz hkz => (hc16 _ (hr0.old (hstks47 _ hkz)))) hx50) ?_
        rintro e wd51 ⟨rfl, hw52⟩
        refine ⟨_, rfl, ?_⟩
        replace hw := hbkks47 _ _ hw52
        replace hw : St [] w0 _ [own 68 eSmemory_Memory (some (⟨g42, 0, none⟩ : Addr)) 1 [t49]] := hw
        intro a hs1
        replace hs : Slots a 118 [(2, .int .i64 a2), (8, .slice Aa13 (l0.take (mnn (l0.length : Int) 12 : Int).toNat).length cc14), (9, .slice Aa23 (l1.take (mnn (l1.length : Int) 12 : Int).toNat).length cc24), (10, .pointer (some (⟨g42, 0, none⟩ : Addr))), (38, .bool false), (41, .int .i64 t48)] := hs1.keep [2, 8, 9, 10, 38, 41] (by kernel_rfl)
        clear hs1
        refine go_pvs 14 16 [2, 8, 9, 10, 43] hs (L' := [(2, .int .i64 a2), (8, .slice Aa13 (l0.take (mnn (l0.length : Int) 12 : Int).toNat).length cc14), (9, .slice Aa23 (l1.take (mnn (l1.length : Int) 12 : Int).toNat).length cc24), (10, .pointer (some (⟨g42, 0, none⟩ : Addr))), (43, .bool (t48 != 0))]) (by kernel_rfl) ?_ rfl
        clear hs; intro a hs
        refine go_end (by kernel_rfl) ?_
        replace hw := hw.only 1
        exact hJ2 t49 (t48 != 0) _ _ (hs.keep [2, 8, 9, 10, 43] (by kernel_rfl)) hw H
      · replace H := ite_f H (bne_iff_ne.1 hb46)
        rw [hb46] at hs
        refine go_pvs 11 16 [2, 8, 9, 10, 43] hs (L' := [(2, .int .i64 a2), (8, .slice Aa13 (l0.take (mnn (l0.length : Int) 12 : Int).toNat).length cc14), (9, .slice Aa23 (l1.take (mnn (l1.length : Int) 12 : Int).toNat).length cc24), (10, .pointer (some (⟨g42, 0, none⟩ : Addr))), (43, .bool true)]) (by kernel_rfl) ?_ rfl
        clear hs; intro a hs
        refine go_end (by kernel_rfl) ?_
        replace hw := hw.only 1
        exact hJ2 x37 true _ _ (hs.keep [2, 8, 9, 10, 43] (by kernel_rfl)) hw H
    · replace H := ite_f H (ff (nt hb45))
      rw [hb45] at hs
      refine go_pvs 3 16 [2, 8, 9, 10, 43] hs (L' := [(2, .int .i64 a2), (8, .slice Aa13 (l0.take (mnn (l0.length : Int) 12 : Int).toNat).length cc14), (9, .slice Aa23 (l1.take (mnn (l1.length : Int) 12 : Int).toNat).length cc24), (10, .pointer (some (⟨g42, 0, none⟩ : Addr))), (43, .bool true)]) (by kernel_rfl) ?_ rfl
      clear hs; intro a hs
      refine go_end (by kernel_rfl) ?_
      replace hw := hw.only 1
      exact hJ2 x37 true _ _ (hs.keep [2, 8, 9, 10, 43] (by kernel_rfl)) hw H

/-! rivet/rivetlaw05.MemoryBack: function 11 -/
noncomputable def rivetlaw05_MemoryBack.j1 : Option Bool := some false
noncomputable def rivetlaw05_MemoryBack.j4 (v85 : Smemory_Memory) (v86 : Bool) : Option Bool := some v86
noncomputable def rivetlaw05_MemoryBack.j8 (v138 : Int) (v167 : Smemory_Memory) : Option (Smemory_Memory × Int ⊕ (Ex Bool Smemory_Memory)) := some (.inl (v167, w64 (v138 + 1)))
noncomputable def rivetlaw05_MemoryBack.j7 (v138 : Int) (t147 : Smemory_Memory) (v163 : Bool) : Option (Smemory_Memory × Int ⊕ (Ex Bool Smemory_Memory)) := (if v163 = true then some (.inr (.ret false)) else rivetlaw05_MemoryBack.j8 v138 t147)
noncomputable def rivetlaw05_MemoryBack.b136 (v129 : Int) (l0 : List Int) (t108 : List Int) (y90 : Int) (v137 : Smemory_Memory) (v138 : Int) : Option (Smemory_Memory × Int ⊕ (Ex Bool Smemory_Memory)) := (if v138 < 4 then ((memory_Memory_Byte v137 (wu32 (w64 ((w64 (4 * v129)) + v138)))).bind fun ⟨t145, t146, t147⟩ => ((if 0 ≤ v129 ∧ v129 < ((l0.take (mnn (l0.length : Int) 12 : Int).toNat).length : Int) then (if 0 ≤ (w64 (8 * v138)) then (nm (wu8 (shr .u32 (ix (eI .u32).d (l0.take (mnn (l0.length : Int) 12 : Int).toNat) v129) (w64 (8 * v138)))) fun y155 => (if t146 = 0 then (if 0 ≤ v129 ∧ v129 < (t108.length : Int) then (if 0 ≤ (w64 (8 * v138)) then (if t145 = (wu8 (shr .u32 (ix (eI .u32).d t108 v129) (w64 (8 * v138)))) then (if (wu32 (w64 ((w64 (4 * v129)) + v138))) = y90 then rivetlaw05_MemoryBack.j7 v138 t147 false else rivetlaw05_MemoryBack.j7 v138 t147 (t145 != y155)) else rivetlaw05_MemoryBack.j7 v138 t147 true) else none) else none) else rivetlaw05_MemoryBack.j7 v138 t147 true)) else none) else none))) else some (.inr (.done v137)))
noncomputable def rivetlaw05_MemoryBack.j9 (v129 : Int) (v169 : Smemory_Memory) : Option (Smemory_Memory × Int ⊕ (Ex Bool Smemory_Memory)) := some (.inl (v169, w64 (v129 + 1)))
noncomputable def rivetlaw05_MemoryBack.b127 (y19 : Int) (l0 : List Int) (t108 : List Int) (y90 : Int) (v128 : Smemory_Memory) (v129 : Int) : Option (Smemory_Memory × Int ⊕ (Ex Bool Smemory_Memory)) := (if v129 < y19 then ((loopO (fun (σ : Smemory_Memory × Int) => rivetlaw05_MemoryBack.b136 v129 l0 t108 y90 σ.1 σ.2) (v128, 0)).bind fun e => match e with | .ret x => some (.inr (.ret x)) | .done e => rivetlaw05_MemoryBack.j9 v129 e) else some (.inr (.done v128)))
noncomputable def rivetlaw05_MemoryBack.j14 (v202 : Int) : Option (Int ⊕ (Ex Bool Unit)) := some (.inl (w64 (v202 + 1)))
noncomputable def rivetlaw05_MemoryBack.j13 (v202 : Int) (v216 : Bool) : Option (Int ⊕ (Ex Bool Unit)) := (if v216 = true then some (.inr (.ret false)) else rivetlaw05_MemoryBack.j14 v202)
noncomputable def rivetlaw05_MemoryBack.j12 (v202 : Int) (y173 : Int) (t191 : List Int) (t108 : List Int) : Option (Int ⊕ (Ex Bool Unit)) := (if v202 = (w64 (wu32 (y173.tdiv 4))) then rivetlaw05_MemoryBack.j13 v202 false else (if 0 ≤ v202 ∧ v202 < (t191.length : Int) then (if 0 ≤ v202 ∧ v202 < (t108.length : Int) then rivetlaw05_MemoryBack.j13 v202 ((ix (eI .u32).d t191 v202) != (ix (eI .u32).d t108 v202)) else none) else none))
noncomputable def rivetlaw05_MemoryBack.j11 (v202 : Int) (y173 : Int) (t191 : List Int) (t108 : List Int) (v206 : Bool) : Option (Int ⊕ (Ex Bool Unit)) := (if v206 = true then rivetlaw05_MemoryBack.j12 v202 y173 t191 t108 else some (.inr (.done ())))
noncomputable def rivetlaw05_MemoryBack.b201 (y19 : Int) (y173 : Int) (t191 : List Int) (t108 : List Int) (v202 : Int) : Option (Int ⊕ (Ex Bool Unit)) := (if v202 < y19 then rivetlaw05_MemoryBack.j11 v202 y173 t191 t108 (decide (v202 < (t191.length : Int))) else rivetlaw05_MemoryBack.j11 v202 y173 t191 t108 false)
noncomputable def rivetlaw05_MemoryBack.j16 (v224 : Bool) : Option Bool := some v224
noncomputable def rivetlaw05_MemoryBack.j15 (t176 : Int) (t184 : Int) (t183 : Int) (a2 : Int) (t191 : List Int) (y19 : Int) : Option Bool := (if t176 = 0 then (if t184 = 0 then (if t183 = a2 then rivetlaw05_MemoryBack.j16 ((t191.length : Int) == y19) else rivetlaw05_MemoryBack.j16 false) else rivetlaw05_MemoryBack.j16 false) else rivetlaw05_MemoryBack.j16 false)
noncomputable def rivetlaw05_MemoryBack.j10 (y90 : Int) (a2 : Int) (y19 : Int) (t108 : List Int) (v171 : Smemory_Memory) : Option Bool := (nm (wu32 ((wu32 (y90.tdiv 4)) * 4)) fun y173 => ((memory_Memory_SetWord v171 y173 a2).bind fun ⟨t176, t177⟩ => (((memory_Memory_Word t177 y173).bind fun ⟨t183, t184, t185⟩ => (((memory_Memory_Words t185).bind fun ⟨t191, t192⟩ => (((loopO (fun (σ : Int) => rivetlaw05_MemoryBack.b201 y19 y173 t191 t108 σ) 0).bind fun e => match e with | .ret x => some x | .done e => rivetlaw05_MemoryBack.j15 t176 t184 t183 a2 t191 y19))))))))
noncomputable def rivetlaw05_MemoryBack.j6 (y19 : Int) (l0 : List Int) (t108 : List Int) (y90 : Int) (t109 : Smemory_Memory) (a2 : Int) : Option Bool := ((loopO (fun (σ : Smemory_Memory × Int) => rivetlaw05_MemoryBack.b127 y19 l0 t108 y90 σ.1 σ.2) (t109, 0)).bind fun e => match e with | .ret x => some x | .done e => rivetlaw05_MemoryBack.j10 y90 a2 y19 t108 e)
noncomputable def rivetlaw05_MemoryBack.j5 (y19 : Int) (l0 : List Int) (t108 : List Int) (y90 : Int) (t109 : Smemory_Memory) (a2 : Int) (v121 : Bool) : Option Bool := (if v121 = true then some false else rivetlaw05_MemoryBack.j6 y19 l0 t108 y90 t109 a2)
noncomputable def rivetlaw05_MemoryBack.j3 (y19 : Int) (a2 : Int) (a1 : Int) (l0 : List Int) (v50 : Smemory_Memory) : Option Bool := (if y19 = 0 then ((memory_Memory_SetWord v50 0 a2).bind fun ⟨t56, t57⟩ => ((if t56 = 3 then ((memory_Memory_SetByte t57 0 1).bind fun ⟨t63, t64⟩ => ((if t63 = 3 then ((memory_Memory_SetWord t64 2 a2).bind fun ⟨t70, t71⟩ => ((if t70 = 4 then ((memory_Memory_Words t71).bind fun ⟨t77, t78⟩ => (rivetlaw05_MemoryBack.j4 t78 ((t77.length : Int) == 0))) else rivetlaw05_MemoryBack.j4 t71 false))) else rivetlaw05_MemoryBack.j4 t64 false))) else rivetlaw05_MemoryBack.j4 t57 false))) else (if (w64 (4 * y19)) ≠ 0 then (nm (wu32 ((w64 a1).tmod (w64 (4 * y19)))) fun y90 => ((memory_Memory_SetByte v50 y90 (wu8 a2)).bind fun ⟨t93, t94⟩ => (((memory_Memory_Byte t94 y90).bind fun ⟨t100, t101, t102⟩ => (((memory_Memory_Words t102).bind fun ⟨t108, t109⟩ => ((if t93 = 0 then (if t101 = 0 then (if t100 = (wu8 a2) then rivetlaw05_MemoryBack.j5 y19 l0 t108 y90 t109 a2 ((t108.length : Int) != y19) else rivetlaw05_MemoryBack.j5 y19 l0 t108 y90 t109 a2 true) else rivetlaw05_MemoryBack.j5 y19 l0 t108 y90 t109 a2 true) else rivetlaw05_MemoryBack.j5 y19 l0 t108 y90 t109 a2 true)))))))) else none))
noncomputable def rivetlaw05_MemoryBack.j2 (y19 : Int) (a2 : Int) (a1 : Int) (l0 : List Int) (v45 : Smemory_Memory) (v46 : Bool) : Option Bool := (if v46 = true then some false else rivetlaw05_MemoryBack.j3 y19 a2 a1 l0 v45)
noncomputable def rivetlaw05_MemoryBack (l0 : List Int) (a1 : Int) (a2 : Int) : Option Bool := ((rivetlaw05_shown).bind fun t4 => ((if 0 ≤ (mnn (l0.length : Int) 12) ∧ (mnn (l0.length : Int) 12) ≤ (l0.length : Int) then (nm ((l0.take (mnn (l0.length : Int) 12 : Int).toNat).length : Int) fun y19 => ((memory_New y19).bind fun ⟨t22, t23⟩ => ((match t22 with | none => (if t4 = true then rivetlaw05_MemoryBack.j1 else rivetlaw05_MemoryBack.j1) | some x29 => (if t4 = true then (if t23 = 0 then ((memory_Memory_Place x29 0 (l0.take (mnn (l0.length : Int) 12 : Int).toNat)).bind fun ⟨t40, t41⟩ => (rivetlaw05_MemoryBack.j2 y19 a2 a1 l0 t41 (t40 != 0))) else rivetlaw05_MemoryBack.j2 y19 a2 a1 l0 x29 true) else rivetlaw05_MemoryBack.j2 y19 a2 a1 l0 x29 true))))) else none)))
set_option maxRecDepth 100000 in
set_option maxHeartbeats 4000000 in
theorem rivetlaw05_MemoryBack.calls (A0 : Option Addr) (c0 : Nat) (l0 : List Int) (a1 : Int) (a2 : Int) (r : Bool) (w0 : World) (hr0 : Rd w0 (eI .u32) A0 c0 l0) (H : rivetlaw05_MemoryBack l0 a1 a2 = some r) :
    Calls Try.prog 11 #[.slice A0 l0.length c0, .int .u16 a1, .int .u32 a2] w0 fun e w' => e = .returned (.bool r) ∧ St [] w0 w' [] := by
  have hw : St [] w0 w0 [] := St.nil w0
  unfold rivetlaw05_MemoryBack at H
  refine go_fn Try.func11 rfl 228 Try.ntmps11 [(0, .slice A0 l0.length c0), (1, .int .u16 a1), (2, .int .u32 a2)] (by kernel_rfl) rfl ?_
  intro a hs
  refine go_seq_k fun K1 hK1 => ?_
  refine go_region ?_
  refine go_pvs 0 1 [0, 1, 2] hs (L' := [(0, .slice A0 l0.length c0), (1, .int .u16 a1), (2, .int .u32 a2)]) (by kernel_rfl) ?_ rfl
  clear hs; intro a hs
  refine go_end (by kernel_rfl) ?_
  refine hK1 _ _ ?_
  refine go_seq_k fun K2 hK2 => ?_
  refine go_region ?_
  obtain ⟨t4, hx5, H⟩ := bind_some H
  refine go_call hs (op := (Op.call { callee := (Callee.value (Operand.func 13)), args := #[], argTypes := #[] })) (ty := 4) (dst := some 28) (g := none) (by kernel_rfl) (by kernel_rfl) (by kernel_rfl) (f := 13) (args := #[]) (by kernel_rfl) (rivetlaw05_shown.calls t4 _ hx5) ?_
  rintro e wd6 ⟨rfl, hw7⟩
  refine ⟨_, rfl, ?_⟩
  replace hw := hw.call hw7
  intro a hs1
  replace hs : Slots a 228 [(0, .slice A0 l0.length c0), (1, .int .u16 a1), (2, .int .u32 a2), (28, .bool t4)] := hs1.keep [0, 1, 2, 28] (by kernel_rfl)
  clear hs1
  refine go_pvs 1 2 [0, 1, 2, 7] hs (L' := [(0, .slice A0 l0.length c0), (1, .int .u16 a1), (2, .int .u32 a2), (7, .bool t4)]) (by kernel_rfl) ?_ rfl
  clear hs; intro a hs
  refine go_end (by kernel_rfl) ?_
  refine hK2 _ _ ?_
  refine go_seq_k fun K8 hK8 => ?_
  refine go_region ?_
  refine go_pvs 0 1 [1, 2, 7, 29] hs (L' := [(1, .int .u16 a1), (2, .int .u32 a2), (7, .bool t4), (29, .slice A0 l0.length c0)]) (by kernel_rfl) ?_ rfl
  clear hs; intro a hs
  refine go_inline_k hs (op := (Op.call { callee := (Callee.value (Operand.func 14)), args := #[(Operand.tmp 29)], argTypes := #[22] })) (ty := 22) (dst := some 30) (g := none) (by kernel_rfl) (by kernel_rfl) (by kernel_rfl) (f := 14) (args := #[.slice A0 l0.length c0]) (by kernel_rfl) (fun KR9 hKR9 => ?_)
  refine go_fn Try.func14 rfl 8 Try.ntmps14 [(0, .slice A0 l0.length c0)] (by kernel_rfl) rfl ?_
  clear hs; intro a hs
  refine go_seq_k fun K10 hK10 => ?_
  refine go_region ?_
  refine go_pvs 0 1 [0] hs (L' := [(0, .slice A0 l0.length c0)]) (by kernel_rfl) ?_ rfl
  clear hs; intro a hs
  refine go_end (by kernel_rfl) ?_
  refine hK10 _ _ ?_
  refine go_seq_k fun K11 hK11 => ?_
  refine go_region ?_
  refine go_pvs 0 4 [3, 6] hs (L' := [(3, .slice A0 l0.length c0), (6, .int .i64 (mnn (l0.length : Int) 12))]) (by kernel_rfl) ?_ rfl
  clear hs; intro a hs
  obtain ⟨hp12, H⟩ := ite_only H
  obtain ⟨Aa13, cc14, hx15, hc16⟩ := c_hi (P := Try.prog) (L := [(3, .slice A0 l0.length c0), (6, .int .i64 (mnn (l0.length : Int) 12))]) (ty := 22) (E := (eI .u32)) (T := 23) (t := 22) (x := (Operand.tmp 3)) (y := (Operand.tmp 6)) (k := .i64) (by kernel_rfl) (by kernel_rfl) (hr0.old hw) (by kernel_rfl) (by kernel_rfl) hp12.1 hp12.2
  refine go_run hs (op := (Op.slice 22 (Operand.tmp 3) none (some (Operand.tmp 6)) none)) (ty := 22) (dst := some 7) (g := none) (by kernel_rfl) (by kernel_rfl) (by kernel_rfl) hx15 [7] (L' := [(7, .slice Aa13 (l0.take (mnn (l0.length : Int) 12 : Int).toNat).length cc14)]) (by kernel_rfl) ?_
  clear hs; intro a hs
  refine go_pvs 5 6 [2] hs (L' := [(2, .slice Aa13 (l0.take (mnn (l0.length : Int) 12 : Int).toNat).length cc14)]) (by kernel_rfl) ?_ rfl
  clear hs; intro a hs
  refine go_end (by kernel_rfl) ?_
  refine hK11 _ _ ?_
  refine wp_ret ?_
  refine ret1 (t := 2) (v := .slice Aa13 (l0.take (mnn (l0.length : Int) 12 : Int).toNat).length cc14) hs (by kernel_rfl) (by kernel_rfl) ?_
  refine ⟨_, rfl, ?_⟩
  refine hKR9 _ _ ?_
  intro a hs1
  have hs : Slots a _ [(1, .int .u16 a1), (2, .int .u32 a2), (7, .bool t4), (30, .slice Aa13 (l0.take (mnn (l0.length : Int) 12 : Int).toNat).length cc14)] := hs1.keep [1, 2, 7, 30] (by kernel_rfl)
  clear hs1
  refine go_pvs 2 3 [1, 2, 7, 8] hs (L' := [(1, .int .u16 a1), (2, .int .u32 a2), (7, .bool t4), (8, .slice Aa13 (l0.take (mnn (l0.length : Int) 12 : Int).toNat).length cc14)]) (by kernel_rfl) ?_ rfl
  clear hs; intro a hs
  refine go_end (by kernel_rfl) ?_
  refine hK8 _ _ ?_
  refine go_seq_k fun K18 hK18 => ?_
  refine go_region ?_
  refine go_pvs 0 3 [1, 2, 7, 8, 9] hs (L' := [(1, .int .u16 a1), (2, .int .u32 a2), (7, .bool t4), (8, .slice Aa13 (l0.take (mnn (l0.length : Int) 12 : Int).toNat).length cc14), (9, .int .i64 ((l0.take (mnn (l0.length : Int) 12 : Int).toNat).length : Int))]) (by kernel_rfl) ?_ rfl
  clear hs; intro a hs
  obtain ⟨y19, hy19, H⟩ := nm_some H
  replace hs : Slots a 228 [(1, .int .u16 a1), (2, .int .u32 a2), (7, .bool t4), (8, .slice Aa13 (l0.take (mnn (l0.length : Int) 12 : Int).toNat).length cc14), (9, .int .i64 y19)] := by rw [hy19]; exact hs
  refine go_end (by kernel_rfl) ?_
  refine hK18 _ _ ?_
  refine go_seq_k fun K20 hK20 => ?_
  refine go_region ?_
  refine go_pvs 0 1 [1, 2, 7, 8, 9, 34] hs (L' := [(1, .int .u16 a1), (2, .int .u32 a2), (7, .bool t4), (8, .slice Aa13 (l0.take (mnn (l0.length : Int) 12 : Int).toNat).length cc14), (9, .int .i64 y19), (34, .int .i64 y19)]) (by kernel_rfl) ?_ rfl
  clear hs; intro a hs
  obtain ⟨⟨t22, t23⟩, hx24, H⟩ := bind_some H
  refine go_call hs (op := (Op.call { callee := (Callee.value (Operand.func 15)), args := #[(Operand.tmp 34)], argTypes := #[3] })) (ty := 28) (dst := some 35) (g := none) (by kernel_rfl) (by kernel_rfl) (by kernel_rfl) (f := 15) (args := #[.int .i64 y19]) (by kernel_rfl) (memory_New.calls y19 (t22, t23) _ hx24) ?_
  rintro e wd26 ⟨Aa25, rfl, hw27⟩
  refine ⟨_, rfl, ?_⟩
  replace hw := hw.call hw27
  intro a hs1
  replace hs : Slots a 228 [(1, .int .u16 a1), (2, .int .u32 a2), (7, .bool t4), (8, .slice Aa13 (l0.take (mnn (l0.length : Int) 12 : Int).toNat).length cc14), (9, .int .i64 y19), (35, .tuple #[.pointer Aa25, .int .i64 t23])] := hs1.keep [1, 2, 7, 8, 9, 35] (by kernel_rfl)
  clear hs1
  rcases t22 with _ | x29
  · obtain ⟨hAg, hwg⟩ := St.oM_none hw
    clear hw; subst hAg; have hw := hwg; clear hwg
    refine go_pvs 2 7 [1, 2, 7, 8, 9, 10, 11] hs (L' := [(1, .int .u16 a1), (2, .int .u32 a2), (7, .bool t4), (8, .slice Aa13 (l0.take (mnn (l0.length : Int) 12 : Int).toNat).length cc14), (9, .int .i64 y19), (10, .pointer none), (11, .int .i64 t23)]) (by kernel_rfl) ?_ rfl
    clear hs; intro a hs
    refine go_end (by kernel_rfl) ?_
    refine hK20 _ _ ?_
    refine go_seq_k fun K30 hK30 => ?_
    refine go_seq_k fun K31 hK31 => ?_
    have hJ1 : ∀ (a : Act) (w : World), Slots a 228 [(1, .int .u16 a1), (2, .int .u32 a2), (8, .slice Aa13 (l0.take (mnn (l0.length : Int) 12 : Int).toNat).length cc14), (9, .int .i64 y19), (10, .pointer none), (53, .bool true)] → St [] w0 w [] → rivetlaw05_MemoryBack.j1 = some r → K31 a w := by
      intro a w hs hw H
      unfold rivetlaw05_MemoryBack.j1 at H
      refine hK31 _ _ ?_
      refine go_cond hs true (by kernel_rfl) (fun hc => ?_) (fun hc => ?_)
      · skip
        refine go_seq_k fun K33 hK33 => ?_
        refine go_region ?_
        refine go_pvs 0 1 [6] hs (L' := [(6, .bool false)]) (by kernel_rfl) ?_ rfl
        clear hs; intro a hs
        refine go_end (by kernel_rfl) ?_
        refine hK33 _ _ ?_
        refine wp_ret ?_
        refine th_ret ?_
        obtain rfl := Option.some.inj H
        refine ret1 (t := 6) (v := .bool false) hs (by kernel_rfl) (by kernel_rfl) ?_
        exact ⟨rfl, hw.only 0⟩
      · cases hc
    refine go_region ?_
    refine go_pvs 0 3 [1, 2, 8, 9, 10, 11, 40] hs (L' := [(1, .int .u16 a1), (2, .int .u32 a2), (8, .slice Aa13 (l0.take (mnn (l0.length : Int) 12 : Int).toNat).length cc14), (9, .int .i64 y19), (10, .pointer none), (11, .int .i64 t23), (40, .bool (!t4))]) (by kernel_rfl) ?_ rfl
    clear hs; intro a hs
    cases hb32 : (!t4)
    · replace H := ite_t H (nf hb32)
      rw [hb32] at hs
      refine go_pvs 3 16 [1, 2, 8, 9, 10, 53] hs (L' := [(1, .int .u16 a1), (2, .int .u32 a2), (8, .slice Aa13 (l0.take (mnn (l0.length : Int) 12 : Int).toNat).length cc14), (9, .int .i64 y19), (10, .pointer none), (53, .bool true)]) (by kernel_rfl) ?_ rfl
      clear hs; intro a hs
      refine go_end (by kernel_rfl) ?_
      replace hw := hw.only 0
      exact hJ1 _ _ (hs.keep [1, 2, 8, 9, 10, 53] (by kernel_rfl)) hw H
    · replace H := ite_f H (ff (nt hb32))
      rw [hb32] at hs
      refine go_pvs 3 16 [1, 2, 8, 9, 10, 53] hs (L' := [(1, .int .u16 a1), (2, .int .u32 a2), (8, .slice Aa13 (l0.take (mnn (l0.length : Int) 12 : Int).toNat).length cc14), (9, .int .i64 y19), (10, .pointer none), (53, .bool true)]) (by kernel_rfl) ?_ rfl
      clear hs; intro a hs
      refine go_end (by kernel_rfl) ?_
      replace hw := hw.only 0
      exact hJ1 _ _ (hs.keep [1, 2, 8, 9, 10, 53] (by kernel_rfl)) hw H
  · replace hw : St [] w0 _ [mSmemory_Memory Aa25 x29] := hw
    obtain ⟨g34, hAg, hwg⟩ := St.one hw
    clear hw; subst hAg; have hw := hwg; clear hwg
    refine go_pvs 2 7 [1, 2, 7, 8, 9, 10, 11] hs (L' := [(1, .int .u16 a1), (2, .int .u32 a2), (7, .bool t4), (8, .slice Aa13 (l0.take (mnn (l0.length : Int) 12 : Int).toNat).length cc14), (9, .int .i64 y19), (10, .pointer (some (⟨g34, 0, none⟩ : Addr))), (11, .int .i64 t23)]) (by kernel_rfl) ?_ rfl
    clear hs; intro a hs
    refine go_end (by kernel_rfl) ?_
    refine hK20 _ _ ?_
    refine go_seq_k fun K35 hK35 => ?_
    have hJ3 : ∀ (v50 : Smemory_Memory) (a : Act) (w : World), Slots a 228 [(1, .int .u16 a1), (2, .int .u32 a2), (8, .slice Aa13 (l0.take (mnn (l0.length : Int) 12 : Int).toNat).length cc14), (9, .int .i64 y19), (10, .pointer (some (⟨g34, 0, none⟩ : Addr)))] → St [] w0 w [own 68 eSmemory_Memory (some (⟨g34, 0, none⟩ : Addr)) 1 [v50]] → rivetlaw05_MemoryBack.j3 y19 a2 a1 l0 v50 = some r → K35 a w := by
      intro v50 a w hs hw H
      unfold rivetlaw05_MemoryBack.j3 at H
      refine hK35 _ _ ?_
      refine go_seq_k fun K51 hK51 => ?_
      refine go_seq_k fun K52 hK52 => ?_
      refine go_region ?_
      refine go_pvs 0 2 [1, 2, 8, 9, 10, 55] hs (L' := [(1, .int .u16 a1), (2, .int .u32 a2), (8, .slice Aa13 (l0.take (mnn (l0.length : Int) 12 : Int).toNat).length cc14), (9, .int .i64 y19), (10, .pointer (some (⟨g34, 0, none⟩ : Addr))), (55, .bool (y19 == 0))]) (by kernel_rfl) ?_ rfl
      clear hs; intro a hs
      refine go_end (by kernel_rfl) ?_
      refine hK52 _ _ ?_
      refine go_cond hs (y19 == 0) (by kernel_rfl) (fun hc => ?_) (fun hc => ?_)
      · replace H := ite_t H (beq_iff_eq.1 hc)
        have hb53 := hc
        rw [hb53] at hs
        refine go_seq_k fun K54 hK54 => ?_
        have hJ4 : ∀ (v85 : Smemory_Memory) (v86 : Bool) (a : Act) (w : World), Slots a 228 [(6, .bool v86)] → St [] w0 w [own 68 eSmemory_Memory (some (⟨g34, 0, none⟩ : Addr)) 1 [v85]] → rivetlaw05_MemoryBack.j4 v85 v86 = some r → K54 a w := by
          intro v85 v86 a w hs hw H
          unfold rivetlaw05_MemoryBack.j4 at H
          refine hK54 _ _ ?_
          refine wp_ret ?_
          refine th_ret ?_
          obtain rfl := Option.some.inj H
          refine ret1 (t := 6) (v := .bool v86) hs (by kernel_rfl) (by kernel_rfl) ?_
          exact ⟨rfl, hw.only 0⟩
        refine go_region ?_
        refine go_pvs 0 2 [2, 10, 56, 57] hs (L' := [(2, .int .u32 a2), (10, .pointer (some (⟨g34, 0, none⟩ : Addr))), (56, .pointer (some (⟨g34, 0, none⟩ : Addr))), (57, .int .u32 a2)]) (by kernel_rfl) ?_ rfl
        clear hs; intro a hs
        obtain ⟨ks55, hgks55, hstks55, hbkks55⟩ := hw.lend 1
        obtain ⟨⟨t56, t57⟩, hx58, H⟩ := bind_some H
        refine go_call hs (op := (Op.call { callee := (Callee.value (Operand.func 33)), args := #[(Operand.tmp 56), (Operand.const (Value.int IntKind.u32 0)), (Operand.tmp 57)], argTypes := #[26, 23, 23] })) (ty := 3) (dst := some 58) (g := none) (by kernel_rfl) (by kernel_rfl) (by kernel_rfl) (f := 33) (args := #[.pointer (some (⟨g34, 0, none⟩ : Addr)), .int .u32 0, .int .u32 a2]) (by kernel_rfl) (memory_Memory_SetWord.calls ks55 (some (⟨g34, 0, none⟩ : Addr)) v50 0 a2 (t56, t57) _ hgks55 hx58) ?_
        rintro e wd59 ⟨rfl, hw60⟩
        refine ⟨_, rfl, ?_⟩
        replace hw := hbkks55 _ _ hw60
        replace hw : St [] w0 _ [own 68 eSmemory_Memory (some (⟨g34, 0, none⟩ : Addr)) 1 [t57]] := hw
        intro a hs1
        replace hs : Slots a 228 [(2, .int .u32 a2), (10, .pointer (some (⟨g34, 0, none⟩ : Addr))), (58, .int .i64 t56)] := hs1.keep [2, 10, 58] (by kernel_rfl)
        clear hs1
        refine go_pvs 3 5 [2, 10, 60] hs (L' := [(2, .int .u32 a2), (10, .pointer (some (⟨g34, 0, none⟩ : Addr))), (60, .bool (t56 == 3))]) (by kernel_rfl) ?_ rfl
        clear hs; intro a hs
        cases hb61 : (t56 == 3)
        · replace H := ite_f H (beq_eq_false_iff_ne.1 hb61)
          rw [hb61] at hs
          refine go_pvs 5 22 [6] hs (L' := [(6, .bool false)]) (by kernel_rfl) ?_ rfl
          clear hs; intro a hs
          refine go_end (by kernel_rfl) ?_
          replace hw := hw.only 1
          exact hJ4 t57 false _ _ (hs.keep [6] (by kernel_rfl)) hw H
        · replace H := ite_t H (beq_iff_eq.1 hb61)
          rw [hb61] at hs
          refine go_pvs 5 6 [2, 10, 60, 61] hs (L' := [(2, .int .u32 a2), (10, .pointer (some (⟨g34, 0, none⟩ : Addr))), (60, .bool true), (61, .pointer (some (⟨g34, 0, none⟩ : Addr)))]) (by kernel_rfl) ?_ rfl
          clear hs; intro a hs
          obtain ⟨ks62, hgks62, hstks62, hbkks62⟩ := hw.lend 1
          obtain ⟨⟨t63, t64⟩, hx65, H⟩ := bind_some H
          refine go_call hs (op := (Op.call { callee := (Callee.value (Operand.func 35)), args := #[(Operand.tmp 61), (Operand.const (Value.int IntKind.u32 0)), (Operand.const (Value.int IntKind.u8 1))], argTypes := #[26, 23, 5] })) (ty := 3) (dst := some 62) (g := some (4, true)) (by kernel_rfl) (by kernel_rfl) (by kernel_rfl) (f := 35) (args := #[.pointer (some (⟨g34, 0, none⟩ : Addr)), .int .u32 0, .int .u8 1]) (by kernel_rfl) (memory_Memory_SetByte.calls ks62 (some (⟨g34, 0, none⟩ : Addr)) t57 0 1 (t63, t64) _ hgks62 hx65) ?_
          rintro e wd66 ⟨rfl, hw67⟩
          refine ⟨_, rfl, ?_⟩
          replace hw := hbkks62 _ _ hw67
          replace hw : St [] w0 _ [own 68 eSmemory_Memory (some (⟨g34, 0, none⟩ : Addr)) 1 [t64]] := hw
          intro a hs1
          replace hs : Slots a 228 [(2, .int .u32 a2), (10, .pointer (some (⟨g34, 0, none⟩ : Addr))), (60, .bool true), (62, .int .i64 t63)] := hs1.keep [2, 10, 60, 62] (by kernel_rfl)
          clear hs1
          refine go_pvs 7 10 [2, 10, 65] hs (L' := [(2, .int .u32 a2), (10, .pointer (some (⟨g34, 0, none⟩ : Addr))), (65, .bool (t63 == 3))]) (by kernel_rfl) ?_ rfl
          clear hs; intro a hs
          cases hb68 : (t63 == 3)
          · replace H := ite_f H (beq_eq_false_iff_ne.1 hb68)
            rw [hb68] at hs
            refine go_pvs 10 22 [6] hs (L' := [(6, .bool false)]) (by kernel_rfl) ?_ rfl
            clear hs; intro a hs
            refine go_end (by kernel_rfl) ?_
            replace hw := hw.only 1
            exact hJ4 t64 false _ _ (hs.keep [6] (by kernel_rfl)) hw H
          · replace H := ite_t H (beq_iff_eq.1 hb68)
            rw [hb68] at hs
            refine go_pvs 10 12 [10, 65, 66, 67] hs (L' := [(10, .pointer (some (⟨g34, 0, none⟩ : Addr))), (65, .bool true), (66, .pointer (some (⟨g34, 0, none⟩ : Addr))), (67, .int .u32 a2)]) (by kernel_rfl) ?_ rfl
            clear hs; intro a hs
            obtain ⟨ks69, hgks69, hstks69, hbkks69⟩ := hw.lend 1
            obtain ⟨⟨t70, t71⟩, hx72, H⟩ := bind_some H
            refine go_call hs (op := (Op.call { callee := (Callee.value (Operand.func 33)), args := #[(Operand.tmp 66), (Operand.const (Value.int IntKind.u32 2)), (Operand.tmp 67)], argTypes := #[26, 23, 23] })) (ty := 3) (dst := some 68) (g := some (9, true)) (by kernel_rfl) (by kernel_rfl) (by kernel_rfl) (f := 33) (args := #[.pointer (some (⟨g34, 0, none⟩ : Addr)), .int .u32 2, .int .u32 a2]) (by kernel_rfl) (memory_Memory_SetWord.calls ks69 (some (⟨g34, 0, none⟩ : Addr)) t64 2 a2 (t70, t71) _ hgks69 hx72) ?_
            rintro e wd73 ⟨rfl, hw74⟩
            refine ⟨_, rfl, ?_⟩
            replace hw := hbkks69 _ _ hw74
            replace hw : St [] w0 _ [own 68 eSmemory_Memory (some (⟨g34, 0, none⟩ : Addr)) 1 [t71]] := hw
            intro a hs1
            replace hs : Slots a 228 [(10, .pointer (some (⟨g34, 0, none⟩ : Addr))), (65, .bool true), (68, .int .i64 t70)] := hs1.keep [10, 65, 68] (by kernel_rfl)
            clear hs1
            refine go_pvs 13 16 [10, 71] hs (L' := [(10, .pointer (some (⟨g34, 0, none⟩ : Addr))), (71, .bool (t70 == 4))]) (by kernel_rfl) ?_ rfl
            clear hs; intro a hs
            cases hb75 : (t70 == 4)
            · replace H := ite_f H (beq_eq_false_iff_ne.1 hb75)
              rw [hb75] at hs
              refine go_pvs 16 22 [6] hs (L' := [(6, .bool false)]) (by kernel_rfl) ?_ rfl
              clear hs; intro a hs
              refine go_end (by kernel_rfl) ?_
              replace hw := hw.only 1
              exact hJ4 t71 false _ _ (hs.keep [6] (by kernel_rfl)) hw H
            · replace H := ite_t H (beq_iff_eq.1 hb75)
              rw [hb75] at hs
              refine go_pvs 16 17 [71, 72] hs (L' := [(71, .bool true), (72, .pointer (some (⟨g34, 0, none⟩ : Addr)))]) (by kernel_rfl) ?_ rfl
              clear hs; intro a hs
              obtain ⟨ks76, hgks76, hstks76, hbkks76⟩ := hw.lend 1
              obtain ⟨⟨t77, t78⟩, hx79, H⟩ := bind_some H
              refine go_call hs (op := (Op.call { callee := (Callee.value (Operand.func 17)), args := #[(Operand.tmp 72)], argTypes := #[26] })) (ty := 22) (dst := some 73) (g := some (15, true)) (by kernel_rfl) (by kernel_rfl) (by kernel_rfl) (f := 17) (args := #[.pointer (some (⟨g34, 0, none⟩ : Addr))]) (by kernel_rfl) (memory_Memory_Words.calls ks76 (some (⟨g34, 0, none⟩ : Addr)) t71 (t77, t78) _ hgks76 hx79) ?_
              rintro e wd82 ⟨Aa80, cc81, rfl, hw83⟩
              refine ⟨_, rfl, ?_⟩
              replace hw := hbkks76 _ _ hw83
              replace hw := hw.up 1
              replace hw : St [] w0 _ [own 68 eSmemory_Memory (some (⟨g34, 0, none⟩ : Addr)) 1 [t78], own 23 (eI .u32) Aa80 cc81 t77] := hw
              intro a hs1
              replace hs : Slots a 228 [(71, .bool true), (73, .slice Aa80 t77.length cc81)] := hs1.keep [71, 73] (by kernel_rfl)
              clear hs1
              refine go_pvs 18 22 [6] hs (L' := [(6, .bool ((t77.length : Int) == 0))]) (by kernel_rfl) ?_ rfl
              clear hs; intro a hs
              refine go_end (by kernel_rfl) ?_
              replace hw := hw.only 1
              exact hJ4 t78 ((t77.length : Int) == 0) _ _ (hs.keep [6] (by kernel_rfl)) hw H
      · replace H := ite_f H (beq_eq_false_iff_ne.1 hc)
        have hb87 := hc
        rw [hb87] at hs
        refine wp_skip ?_
        refine hK51 _ _ ?_
        refine go_seq_k fun K88 hK88 => ?_
        refine go_region ?_
        refine go_pvs 0 4 [2, 8, 9, 10, 78, 80] hs (L' := [(2, .int .u32 a2), (8, .slice Aa13 (l0.take (mnn (l0.length : Int) 12 : Int).toNat).length cc14), (9, .int .i64 y19), (10, .pointer (some (⟨g34, 0, none⟩ : Addr))), (78, .int .i64 (w64 a1)), (80, .int .i64 (w64 (4 * y19)))]) (by kernel_rfl) ?_ rfl
        clear hs; intro a hs
        obtain ⟨hp89, H⟩ := ite_only H
        refine go_run hs (op := (Op.binOp BinOp.rem 3 (Operand.tmp 78) (Operand.tmp 80) 3)) (ty := 3) (dst := some 81) (g := none) (by kernel_rfl) (by kernel_rfl) (by kernel_rfl) (x_rem (k := .i64) (m := w64 a1) (n := w64 (4 * y19)) (by kernel_rfl) (by kernel_rfl) hp89) [2, 8, 9, 10, 81] (L' := [(2, .int .u32 a2), (8, .slice Aa13 (l0.take (mnn (l0.length : Int) 12 : Int).toNat).length cc14), (9, .int .i64 y19), (10, .pointer (some (⟨g34, 0, none⟩ : Addr))), (81, .int .i64 ((w64 a1).tmod (w64 (4 * y19))))]) (by kernel_rfl) ?_
        clear hs; intro a hs
        refine go_pvs 5 7 [2, 8, 9, 10, 12] hs (L' := [(2, .int .u32 a2), (8, .slice Aa13 (l0.take (mnn (l0.length : Int) 12 : Int).toNat).length cc14), (9, .int .i64 y19), (10, .pointer (some (⟨g34, 0, none⟩ : Addr))), (12, .int .u32 (wu32 ((w64 a1).tmod (w64 (4 * y19)))))]) (by kernel_rfl) ?_ rfl
        clear hs; intro a hs
        obtain ⟨y90, hy90, H⟩ := nm_some H
        replace hs : Slots a 228 [(2, .int .u32 a2), (8, .slice Aa13 (l0.take (mnn (l0.length : Int) 12 : Int).toNat).length cc14), (9, .int .i64 y19), (10, .pointer (some (⟨g34, 0, none⟩ : Addr))), (12, .int .u32 y90)] := by rw [hy90]; exact hs
        refine go_end (by kernel_rfl) ?_
        refine hK88 _ _ ?_
        refine go_seq_k fun K91 hK91 => ?_
        refine go_region ?_
        refine go_pvs 0 4 [2, 8, 9, 10, 12, 83, 84, 86] hs (L' := [(2, .int .u32 a2), (8, .slice Aa13 (l0.take (mnn (l0.length : Int) 12 : Int).toNat).length cc14), (9, .int .i64 y19), (10, .pointer (some (⟨g34, 0, none⟩ : Addr))), (12, .int .u32 y90), (83, .pointer (some (⟨g34, 0, none⟩ : Addr))), (84, .int .u32 y90), (86, .int .u8 (wu8 a2))]) (by kernel_rfl) ?_ rfl
        clear hs; intro a hs
        obtain ⟨ks92, hgks92, hstks92, hbkks92⟩ := hw.lend 1
        obtain ⟨⟨t93, t94⟩, hx95, H⟩ := bind_some H
        refine go_call hs (op := (Op.call { callee := (Callee.value (Operand.func 35)), args := #[(Operand.tmp 83), (Operand.tmp 84), (Operand.tmp 86)], argTypes := #[26, 23, 5] })) (ty := 3) (dst := some 87) (g := none) (by kernel_rfl) (by kernel_rfl) (by kernel_rfl) (f := 35) (args := #[.pointer (some (⟨g34, 0, none⟩ : Addr)), .int .u32 y90, .int .u8 (wu8 a2)]) (by kernel_rfl) (memory_Memory_SetByte.calls ks92 (some (⟨g34, 0, none⟩ : Addr)) v50 y90 (wu8 a2) (t93, t94) _ hgks92 hx95) ?_
        rintro e wd96 ⟨rfl, hw97⟩
        refine ⟨_, rfl, ?_⟩
        replace hw := hbkks92 _ _ hw97
        replace hw : St [] w0 _ [own 68 eSmemory_Memory (some (⟨g34, 0, none⟩ : Addr)) 1 [t94]] := hw
        intro a hs1
        replace hs : Slots a 228 [(2, .int .u32 a2), (8, .slice Aa13 (l0.take (mnn (l0.length : Int) 12 : Int).toNat).length cc14), (9, .int .i64 y19), (10, .pointer (some (⟨g34, 0, none⟩ : Addr))), (12, .int .u32 y90), (87, .int .i64 t93)] := hs1.keep [2, 8, 9, 10, 12, 87] (by kernel_rfl)
        clear hs1
        refine go_pvs 5 6 [2, 8, 9, 10, 12, 13] hs (L' := [(2, .int .u32 a2), (8, .slice Aa13 (l0.take (mnn (l0.length : Int) 12 : Int).toNat).length cc14), (9, .int .i64 y19), (10, .pointer (some (⟨g34, 0, none⟩ : Addr))), (12, .int .u32 y90), (13, .int .i64 t93)]) (by kernel_rfl) ?_ rfl
        clear hs; intro a hs
        refine go_end (by kernel_rfl) ?_
        refine hK91 _ _ ?_
        refine go_seq_k fun K98 hK98 => ?_
        refine go_region ?_
        refine go_pvs 0 2 [2, 8, 9, 10, 12, 13, 89, 90] hs (L' := [(2, .int .u32 a2), (8, .slice Aa13 (l0.take (mnn (l0.length : Int) 12 : Int).toNat).length cc14), (9, .int .i64 y19), (10, .pointer (some (⟨g34, 0, none⟩ : Addr))), (12, .int .u32 y90), (13, .int .i64 t93), (89, .pointer (some (⟨g34, 0, none⟩ : Addr))), (90, .int .u32 y90)]) (by kernel_rfl) ?_ rfl
        clear hs; intro a hs
        obtain ⟨ks99, hgks99, hstks99, hbkks99⟩ := hw.lend 1
        obtain ⟨⟨t100, t101, t102⟩, hx103, H⟩ := bind_some H
        refine go_call hs (op := (Op.call { callee := (Callee.value (Operand.func 31)), args := #[(Operand.tmp 89), (Operand.tmp 90)], argTypes := #[26, 23] })) (ty := 60) (dst := some 91) (g := none) (by kernel_rfl) (by kernel_rfl) (by kernel_rfl) (f := 31) (args := #[.pointer (some (⟨g34, 0, none⟩ : Addr)), .int .u32 y90]) (by kernel_rfl) (memory_Memory_Byte.calls ks99 (some (⟨g34, 0, none⟩ : Addr)) t94 y90 (t100, t101, t102) _ hgks99 hx103) ?_
        rintro e wd104 ⟨rfl, hw105⟩
        refine ⟨_, rfl, ?_⟩
        replace hw := hbkks99 _ _ hw105
        replace hw : St [] w0 _ [own 68 eSmemory_Memory (some (⟨g34, 0, none⟩ : Addr)) 1 [t102]] := hw
        intro a hs1
        replace hs : Slots a 228 [(2, .int .u32 a2), (8, .slice Aa13 (l0.take (mnn (l0.length : Int) 12 : Int).toNat).length cc14), (9, .int .i64 y19), (10, .pointer (some (⟨g34, 0, none⟩ : Addr))), (12, .int .u32 y90), (13, .int .i64 t93), (91, .tuple #[.int .u8 t100, .int .i64 t101])] := hs1.keep [2, 8, 9, 10, 12, 13, 91] (by kernel_rfl)
        clear hs1
        refine go_pvs 3 8 [2, 8, 9, 10, 12, 13, 14, 15] hs (L' := [(2, .int .u32 a2), (8, .slice Aa13 (l0.take (mnn (l0.length : Int) 12 : Int).toNat).length cc14), (9, .int .i64 y19), (10, .pointer (some (⟨g34, 0, none⟩ : Addr))), (12, .int .u32 y90), (13, .int .i64 t93), (14, .int .u8 t100), (15, .int .i64 t101)]) (by kernel_rfl) ?_ rfl
        clear hs; intro a hs
        refine go_end (by kernel_rfl) ?_
        refine hK98 _ _ ?_
        refine go_seq_k fun K106 hK106 => ?_
        refine go_region ?_
        refine go_pvs 0 1 [2, 8, 9, 10, 12, 13, 14, 15, 94] hs (L' := [(2, .int .u32 a2), (8, .slice Aa13 (l0.take (mnn (l0.length : Int) 12 : Int).toNat).length cc14), (9, .int .i64 y19), (10, .pointer (some (⟨g34, 0, none⟩ : Addr))), (12, .int .u32 y90), (13, .int .i64 t93), (14, .int .u8 t100), (15, .int .i64 t101), (94, .pointer (some (⟨g34, 0, none⟩ : Addr)))]) (by kernel_rfl) ?_ rfl
        clear hs; intro a hs
        obtain ⟨ks107, hgks107, hstks107, hbkks107⟩ := hw.lend 1
        obtain ⟨⟨t108, t109⟩, hx110, H⟩ := bind_some H
        refine go_call hs (op := (Op.call { callee := (Callee.value (Operand.func 17)), args := #[(Operand.tmp 94)], argTypes := #[26] })) (ty := 22) (dst := some 95) (g := none) (by kernel_rfl) (by kernel_rfl) (by kernel_rfl) (f := 17) (args := #[.pointer (some (⟨g34, 0, none⟩ : Addr))]) (by kernel_rfl) (memory_Memory_Words.calls ks107 (some (⟨g34, 0, none⟩ : Addr)) t102 (t108, t109) _ hgks107 hx110) ?_
        rintro e wd113 ⟨Aa111, cc112, rfl, hw114⟩
        refine ⟨_, rfl, ?_⟩
        replace hw := hbkks107 _ _ hw114
        replace hw := hw.up 1
        replace hw : St [] w0 _ [own 68 eSmemory_Memory (some (⟨g34, 0, none⟩ : Addr)) 1 [t109], own 23 (eI .u32) Aa111 cc112 t108] := hw
        intro a hs1
        replace hs : Slots a 228 [(2, .int .u32 a2), (8, .slice Aa13 (l0.take (mnn (l0.length : Int) 12 : Int).toNat).length cc14), (9, .int .i64 y19), (10, .pointer (some (⟨g34, 0, none⟩ : Addr))), (12, .int .u32 y90), (13, .int .i64 t93), (14, .int .u8 t100), (15, .int .i64 t101), (95, .slice Aa111 t108.length cc112)] := hs1.keep [2, 8, 9, 10, 12, 13, 14, 15, 95] (by kernel_rfl)
        clear hs1
        refine go_pvs 2 3 [2, 8, 9, 10, 12, 13, 14, 15, 16] hs (L' := [(2, .int .u32 a2), (8, .slice Aa13 (l0.take (mnn (l0.length : Int) 12 : Int).toNat).length cc14), (9, .int .i64 y19), (10, .pointer (some (⟨g34, 0, none⟩ : Addr))), (12, .int .u32 y90), (13, .int .i64 t93), (14, .int .u8 t100), (15, .int .i64 t101), (16, .slice Aa111 t108.length cc112)]) (by kernel_rfl) ?_ rfl
        clear hs; intro a hs
        refine go_end (by kernel_rfl) ?_
        refine hK106 _ _ ?_
        refine go_seq_k fun K116 hK116 => ?_
        have hJ6 : ∀ (a : Act) (w : World), Slots a 228 [(2, .int .u32 a2), (8, .slice Aa13 (l0.take (mnn (l0.length : Int) 12 : Int).toNat).length cc14), (9, .int .i64 y19), (10, .pointer (some (⟨g34, 0, none⟩ : Addr))), (12, .int .u32 y90), (16, .slice Aa111 t108.length cc112)] → St [] w0 w [own 68 eSmemory_Memory (some (⟨g34, 0, none⟩ : Addr)) 1 [t109], own 23 (eI .u32) Aa111 cc112 t108] → rivetlaw05_MemoryBack.j6 y19 l0 t108 y90 t109 a2 = some r → K116 a w := by
          intro a w hs hw H
          unfold rivetlaw05_MemoryBack.j6 at H
          refine hK116 _ _ ?_
          refine go_seq_k fun K125 hK125 => ?_
          refine go_seq_k fun K126 hK126 => ?_
          refine go_region ?_
          refine go_pvs 0 1 [2, 8, 9, 10, 12, 16, 17] hs (L' := [(2, .int .u32 a2), (8, .slice Aa13 (l0.take (mnn (l0.length : Int) 12 : Int).toNat).length cc14), (9, .int .i64 y19), (10, .pointer (some (⟨g34, 0, none⟩ : Addr))), (12, .int .u32 y90), (16, .slice Aa111 t108.length cc112), (17, .int .i64 0)]) (by kernel_rfl) ?_ rfl
          clear hs; intro a hs
          refine go_end (by kernel_rfl) ?_
          refine hK126 _ _ ?_
          refine wp_block ?_
          obtain ⟨e127, hl127, HX127⟩ := bind_some H
          have hJ10 : ∀ (v171 : Smemory_Memory) (a : Act) (w : World), Slots a 228 [(2, .int .u32 a2), (9, .int .i64 y19), (10, .pointer (some (⟨g34, 0, none⟩ : Addr))), (12, .int .u32 y90), (16, .slice Aa111 t108.length cc112)] → St [] w0 w [own 68 eSmemory_Memory (some (⟨g34, 0, none⟩ : Addr)) 1 [v171], own 23 (eI .u32) Aa111 cc112 t108] → rivetlaw05_MemoryBack.j10 y90 a2 y19 t108 v171 = some r → K125 a w := by
            intro v171 a w hs hw H
            unfold rivetlaw05_MemoryBack.j10 at H
            refine hK125 _ _ ?_
            refine go_seq_k fun K172 hK172 => ?_
            refine go_region ?_
            refine go_pvs 0 4 [2, 9, 10, 16, 22] hs (L' := [(2, .int .u32 a2), (9, .int .i64 y19), (10, .pointer (some (⟨g34, 0, none⟩ : Addr))), (16, .slice Aa111 t108.length cc112), (22, .int .u32 (wu32 ((wu32 (y90.tdiv 4)) * 4)))]) (by kernel_rfl) ?_ rfl
            clear hs; intro a hs
            obtain ⟨y173, hy173, H⟩ := nm_some H
            replace hs : Slots a 228 [(2, .int .u32 a2), (9, .int .i64 y19), (10, .pointer (some (⟨g34, 0, none⟩ : Addr))), (16, .slice Aa111 t108.length cc112), (22, .int .u32 y173)] := by rw [hy173]; exact hs
            refine go_end (by kernel_rfl) ?_
            refine hK172 _ _ ?_
            refine go_seq_k fun K174 hK174 => ?_
            refine go_region ?_
            refine go_pvs 0 3 [2, 9, 10, 16, 22, 172, 173, 174] hs (L' := [(2, .int .u32 a2), (9, .int .i64 y19), (10, .pointer (some (⟨g34, 0, none⟩ : Addr))), (16, .slice Aa111 t108.length cc112), (22, .int .u32 y173), (172, .pointer (some (⟨g34, 0, none⟩ : Addr))), (173, .int .u32 y173), (174, .int .u32 a2)]) (by kernel_rfl) ?_ rfl
            clear hs; intro a hs
            obtain ⟨ks175, hgks175, hstks175, hbkks175⟩ := hw.lend 1
            obtain ⟨⟨t176, t177⟩, hx178, H⟩ := bind_some H
            refine go_call hs (op := (Op.call { callee := (Callee.value (Operand.func 33)), args := #[(Operand.tmp 172), (Operand.tmp 173), (Operand.tmp 174)], argTypes := #[26, 23, 23] })) (ty := 3) (dst := some 175) (g := none) (by kernel_rfl) (by kernel_rfl) (by kernel_rfl) (f := 33) (args := #[.pointer (some (⟨g34, 0, none⟩ : Addr)), .int .u32 y173, .int .u32 a2]) (by kernel_rfl) (memory_Memory_SetWord.calls ks175 (some (⟨g34, 0, none⟩ : Addr)) v171 y173 a2 (t176, t177) _ hgks175 hx178) ?_
            rintro e wd179 ⟨rfl, hw180⟩
            refine ⟨_, rfl, ?_⟩
            replace hw := hbkks175 _ _ hw180
            replace hw : St [] w0 _ [own 68 eSmemory_Memory (some (⟨g34, 0, none⟩ : Addr)) 1 [t177], own 23 (eI .u32) Aa111 cc112 t108] := hw
            intro a hs1
            replace hs : Slots a 228 [(2, .int .u32 a2), (9, .int .i64 y19), (10, .pointer (some (⟨g34, 0, none⟩ : Addr))), (16, .slice Aa111 t108.length cc112), (22, .int .u32 y173), (175, .int .i64 t176)] := hs1.keep [2, 9, 10, 16, 22, 175] (by kernel_rfl)
            clear hs1
            refine go_pvs 4 5 [2, 9, 10, 16, 22, 23] hs (L' := [(2, .int .u32 a2), (9, .int .i64 y19), (10, .pointer (some (⟨g34, 0, none⟩ : Addr))), (16, .slice Aa111 t108.length cc112), (22, .int .u32 y173), (23, .int .i64 t176)]) (by kernel_rfl) ?_ rfl
            clear hs; intro a hs
            refine go_end (by kernel_rfl) ?_
            refine hK174 _ _ ?_
            refine go_seq_k fun K181 hK181 => ?_
            refine go_region ?_
            refine go_pvs 0 2 [2, 9, 10, 16, 22, 23, 177, 178] hs (L' := [(2, .int .u32 a2), (9, .int .i64 y19), (10, .pointer (some (⟨g34, 0, none⟩ : Addr))), (16, .slice Aa111 t108.length cc112), (22, .int .u32 y173), (23, .int .i64 t176), (177, .pointer (some (⟨g34, 0, none⟩ : Addr))), (178, .int .u32 y173)]) (by kernel_rfl) ?_ rfl
            clear hs; intro a hs
            obtain ⟨ks182, hgks182, hstks182, hbkks182⟩ := hw.lend 1
            obtain ⟨⟨t183, t184, t185⟩, hx186, H⟩ := bind_some H
            refine go_call hs (op := (Op.call { callee := (Callee.value (Operand.func 29)), args := #[(Operand.tmp 177), (Operand.tmp 178)], argTypes := #[26, 23] })) (ty := 58) (dst := some 179) (g := none) (by kernel_rfl) (by kernel_rfl) (by kernel_rfl) (f := 29) (args := #[.pointer (some (⟨g34, 0, none⟩ : Addr)), .int .u32 y173]) (by kernel_rfl) (memory_Memory_Word.calls ks182 (some (⟨g34, 0, none⟩ : Addr)) t177 y173 (t183, t184, t185) _ hgks182 hx186) ?_
            rintro e wd187 ⟨rfl, hw188⟩
            refine ⟨_, rfl, ?_⟩
            replace hw := hbkks182 _ _ hw188
            replace hw : St [] w0 _ [own 68 eSmemory_Memory (some (⟨g34, 0, none⟩ : Addr)) 1 [t185], own 23 (eI .u32) Aa111 cc112 t108] := hw
            intro a hs1
            replace hs : Slots a 228 [(2, .int .u32 a2), (9, .int .i64 y19), (10, .pointer (some (⟨g34, 0, none⟩ : Addr))), (16, .slice Aa111 t108.length cc112), (22, .int .u32 y173), (23, .int .i64 t176), (179, .tuple #[.int .u32 t183, .int .i64 t184])] := hs1.keep [2, 9, 10, 16, 22, 23, 179] (by kernel_rfl)
            clear hs1
            refine go_pvs 3 8 [2, 9, 10, 16, 22, 23, 24, 25] hs (L' := [(2, .int .u32 a2), (9, .int .i64 y19), (10, .pointer (some (⟨g34, 0, none⟩ : Addr))), (16, .slice Aa111 t108.length cc112), (22, .int .u32 y173), (23, .int .i64 t176), (24, .int .u32 t183), (25, .int .i64 t184)]) (by kernel_rfl) ?_ rfl
            clear hs; intro a hs
            refine go_end (by kernel_rfl) ?_
            refine hK181 _ _ ?_
            refine go_seq_k fun K189 hK189 => ?_
            refine go_region ?_
            refine go_pvs 0 1 [2, 9, 16, 22, 23, 24, 25, 182] hs (L' := [(2, .int .u32 a2), (9, .int .i64 y19), (16, .slice Aa111 t108.length cc112), (22, .int .u32 y173), (23, .int .i64 t176), (24, .int .u32 t183), (25, .int .i64 t184), (182, .pointer (some (⟨g34, 0, none⟩ : Addr)))]) (by kernel_rfl) ?_ rfl
            clear hs; intro a hs
            obtain ⟨ks190, hgks190, hstks190, hbkks190⟩ := hw.lend 1
            obtain ⟨⟨t191, t192⟩, hx193, H⟩ := bind_some H
            refine go_call hs (op := (Op.call { callee := (Callee.value (Operand.func 17)), args := #[(Operand.tmp 182)], argTypes := #[26] })) (ty := 22) (dst := some 183) (g := none) (by kernel_rfl) (by kernel_rfl) (by kernel_rfl) (f := 17) (args := #[.pointer (some (⟨g34, 0, none⟩ : Addr))]) (by kernel_rfl) (memory_Memory_Words.calls ks190 (some (⟨g34, 0, none⟩ : Addr)) t185 (t191, t192) _ hgks190 hx193) ?_
            rintro e wd196 ⟨Aa194, cc195, rfl, hw197⟩
            refine ⟨_, rfl, ?_⟩
            replace hw := hbkks190 _ _ hw197
            replace hw := hw.up 1
            replace hw : St [] w0 _ [own 68 eSmemory_Memory (some (⟨g34, 0, none⟩ : Addr)) 1 [t192], own 23 (eI .u32) Aa194 cc195 t191, own 23 (eI .u32) Aa111 cc112 t108] := hw
            intro a hs1
            replace hs : Slots a 228 [(2, .int .u32 a2), (9, .int .i64 y19), (16, .slice Aa111 t108.length cc112), (22, .int .u32 y173), (23, .int .i64 t176), (24, .int .u32 t183), (25, .int .i64 t184), (183, .slice Aa194 t191.length cc195)] := hs1.keep [2, 9, 16, 22, 23, 24, 25, 183] (by kernel_rfl)
            clear hs1
            refine go_pvs 2 3 [2, 9, 16, 22, 23, 24, 25, 26] hs (L' := [(2, .int .u32 a2), (9, .int .i64 y19), (16, .slice Aa111 t108.length cc112), (22, .int .u32 y173), (23, .int .i64 t176), (24, .int .u32 t183), (25, .int .i64 t184), (26, .slice Aa194 t191.length cc195)]) (by kernel_rfl) ?_ rfl
            clear hs; intro a hs
            refine go_end (by kernel_rfl) ?_
            refine hK189 _ _ ?_
            refine go_seq_k fun K199 hK199 => ?_
            refine go_seq_k fun K200 hK200 => ?_
            refine go_region ?_
            refine go_pvs 0 1 [2, 9, 16, 22, 23, 24, 25, 26, 27] hs (L' := [(2, .int .u32 a2), (9, .int .i64 y19), (16, .slice Aa111 t108.length cc112), (22, .int .u32 y173), (23, .int .i64 t176), (24, .int .u32 t183), (25, .int .i64 t184), (26, .slice Aa194 t191.length cc195), (27, .int .i64 0)]) (by kernel_rfl) ?_ rfl
            clear hs; intro a hs
            refine go_end (by kernel_rfl) ?_
            refine hK200 _ _ ?_
            refine wp_block ?_
            obtain ⟨e201, hl201, HX201⟩ := bind_some H
            have hJ15 : ∀ (a : Act) (w : World), Slots a 228 [(2, .int .u32 a2), (9, .int .i64 y19), (23, .int .i64 t176), (24, .int .u32 t183), (25, .int .i64 t184), (26, .slice Aa194 t191.length cc195)] → St [] w0 w [own 68 eSmemory_Memory (some (⟨g34, 0, none⟩ : Addr)) 1 [t192], own 23 (eI .u32) Aa194 cc195 t191, own 23 (eI .u32) Aa111 cc112 t108] → rivetlaw05_MemoryBack.j15 t176 t184 t183 a2 t191 y19 = some r → K199 a w := by
              intro a w hs hw H
              unfold rivetlaw05_MemoryBack.j15 at H
              refine hK199 _ _ ?_
              refine go_seq_k fun K220 hK220 => ?_
              have hJ16 : ∀ (v224 : Bool) (a : Act) (w : World), Slots a 228 [(6, .bool v224)] → St [] w0 w [own 68 eSmemory_Memory (some (⟨g34, 0, none⟩ : Addr)) 1 [t192], own 23 (eI .u32) Aa194 cc195 t191, own 23 (eI .u32) Aa111 cc112 t108] → rivetlaw05_MemoryBack.j16 v224 = some r → K220 a w := by
                intro v224 a w hs hw H
                unfold rivetlaw05_MemoryBack.j16 at H
                refine hK220 _ _ ?_
                refine wp_ret ?_
                obtain rfl := Option.some.inj H
                refine ret1 (t := 6) (v := .bool v224) hs (by kernel_rfl) (by kernel_rfl) ?_
                exact ⟨rfl, hw.only 0⟩
              refine go_region ?_
              refine go_pvs 0 3 [2, 9, 24, 25, 26, 213] hs (L' := [(2, .int .u32 a2), (9, .int .i64 y19), (24, .int .u32 t183), (25, .int .i64 t184), (26, .slice Aa194 t191.length cc195), (213, .bool (t176 == 0))]) (by kernel_rfl) ?_ rfl
              clear hs; intro a hs
              cases hb221 : (t176 == 0)
              · replace H := ite_f H (beq_eq_false_iff_ne.1 hb221)
                rw [hb221] at hs
                refine go_pvs 3 18 [6] hs (L' := [(6, .bool false)]) (by kernel_rfl) ?_ rfl
                clear hs; intro a hs
                refine go_end (by kernel_rfl) ?_
                replace hw := hw.up 2
                replace hw := hw.up 2
                replace hw := hw.up 2
                replace hw := hw.only 3
                exact hJ16 false _ _ (hs.keep [6] (by kernel_rfl)) hw H
              · replace H := ite_t H (beq_iff_eq.1 hb221)
                rw [hb221] at hs
                refine go_pvs 3 7 [2, 9, 24, 26, 217] hs (L' := [(2, .int .u32 a2), (9, .int .i64 y19), (24, .int .u32 t183), (26, .slice Aa194 t191.length cc195), (217, .bool (t184 == 0))]) (by kernel_rfl) ?_ rfl
                clear hs; intro a hs
                cases hb222 : (t184 == 0)
                · replace H := ite_f H (beq_eq_false_iff_ne.1 hb222)
                  rw [hb222] at hs
                  refine go_pvs 7 18 [6] hs (L' := [(6, .bool false)]) (by kernel_rfl) ?_ rfl
                  clear hs; intro a hs
                  refine go_end (by kernel_rfl) ?_
                  replace hw := hw.up 2
                  replace hw := hw.up 2
                  replace hw := hw.up 2
                  replace hw := hw.only 3
                  exact hJ16 false _ _ (hs.keep [6] (by kernel_rfl)) hw H
                · replace H := ite_t H (beq_iff_eq.1 hb222)
                  rw [hb222] at hs
                  refine go_pvs 7 12 [9, 26, 222] hs (L' := [(9, .int .i64 y19), (26, .slice Aa194 t191.length cc195), (222, .bool (t183 == a2))]) (by kernel_rfl) ?_ rfl
                  clear hs; intro a hs
                  cases hb223 : (t183 == a2)
                  · replace H := ite_f H (beq_eq_false_iff_ne.1 hb223)
                    rw [hb223] at hs
                    refine go_pvs 12 18 [6] hs (L' := [(6, .bool false)]) (by kernel_rfl) ?_ rfl
                    clear hs; intro a hs
                    refine go_end (by kernel_rfl) ?_
                    replace hw := hw.up 2
                    replace hw := hw.up 2
                    replace hw := hw.up 2
                    replace hw := hw.only 3
                    exact hJ16 false _ _ (hs.keep [6] (by kernel_rfl)) hw H
                  · replace H := ite_t H (beq_iff_eq.1 hb223)
                    rw [hb223] at hs
                    refine go_pvs 12 18 [6] hs (L' := [(6, .bool ((t191.length : Int) == y19))]) (by kernel_rfl) ?_ rfl
                    clear hs; intro a hs
                    refine go_end (by kernel_rfl) ?_
                    replace hw := hw.up 2
                    replace hw := hw.up 2
                    replace hw := hw.up 2
                    replace hw := hw.only 3
                    exact hJ16 ((t191.length : Int) == y19) _ _ (hs.keep [6] (by kernel_rfl)) hw H
            clear H
            refine go_loop (σ := Int) (fun σ a w => Slots a 228 [(2, .int .u32 a2), (9, .int .i64 y19), (16, .slice Aa111 t108.length cc112), (22, .int .u32 y173), (23, .int .i64 t176), (24, .int .u32 t183), (25, .int .i64 t184), (26, .slice Aa194 t191.length cc195), (27, .int .i64 σ)] ∧ St [] w0 w [own 68 eSmemory_Memory (some (⟨g34, 0, none⟩ : Addr)) 1 [t192], own 23 (eI .u32) Aa194 cc195 t191, own 23 (eI .u32) Aa111 cc112 t108]) hl201 (by exact ⟨hs.keep [2, 9, 16, 22, 23, 24, 25, 26, 27] (by kernel_rfl), hw⟩) ?_
            rintro v202 a w ⟨hs, hw⟩ o H hr201
            replace hs : Slots a 228 [(2, .int .u32 a2), (9, .int .i64 y19), (16, .slice Aa111 t108.length cc112), (22, .int .u32 y173), (23, .int .i64 t176), (24, .int .u32 t183), (25, .int .i64 t184), (26, .slice Aa194 t191.length cc195), (27, .int .i64 v202)] := hs
            replace hw : St [] w0 w [own 68 eSmemory_Memory (some (⟨g34, 0, none⟩ : Addr)) 1 [t192], own 23 (eI .u32) Aa194 cc195 t191, own 23 (eI .u32) Aa111 cc112 t108] := hw
            replace H : rivetlaw05_MemoryBack.b201 y19 y173 t191 t108 v202 = some o := H
            unfold rivetlaw05_MemoryBack.b201 at H
            refine go_seq_k fun K203 hK203 => ?_
            have hJ12 : ∀ (a : Act) (w : World), Slots a 228 [(2, .int .u32 a2), (9, .int .i64 y19), (16, .slice Aa111 t108.length cc112), (22, .int .u32 y173), (23, .int .i64 t176), (24, .int .u32 t183), (25, .int .i64 t184), (26, .slice Aa194 t191.length cc195), (27, .int .i64 v202)] → St [] w0 w [own 68 eSmemory_Memory (some (⟨g34, 0, none⟩ : Addr)) 1 [t192], own 23 (eI .u32) Aa194 cc195 t191, own 23 (eI .u32) Aa111 cc112 t108] → rivetlaw05_MemoryBack.j12 v202 y173 t191 t108 = some o → K203 a w := by
              intro a w hs hw H
              unfold rivetlaw05_MemoryBack.j12 at H
              refine hK203 _ _ ?_
              refine go_seq_k fun K209 hK209 => ?_
              have hJ14 : ∀ (a : Act) (w : World), Slots a 228 [(2, .int .u32 a2), (9, .int .i64 y19), (16, .slice Aa111 t108.length cc112), (22, .int .u32 y173), (23, .int .i64 t176), (24, .int .u32 t183), (25, .int .i64 t184), (26, .slice Aa194 t191.length cc195), (27, .int .i64 v202)] → St [] w0 w [own 68 eSmemory_Memory (some (⟨g34, 0, none⟩ : Addr)) 1 [t192], own 23 (eI .u32) Aa194 cc195 t191, own 23 (eI .u32) Aa111 cc112 t108] → rivetlaw05_MemoryBack.j14 v202 = some o → K209 a w := by
                intro a w hs hw H
                unfold rivetlaw05_MemoryBack.j14 at H
                refine hK209 _ _ ?_
                refine go_region ?_
                refine go_pvs 0 3 [2, 9, 16, 22, 23, 24, 25, 26, 27] hs (L' := [(2, .int .u32 a2), (9, .int .i64 y19), (16, .slice Aa111 t108.length cc112), (22, .int .u32 y173), (23, .int .i64 t176), (24, .int .u32 t183), (25, .int .i64 t184), (26, .slice Aa194 t191.length cc195), (27, .int .i64 (w64 (v202 + 1)))]) (by kernel_rfl) ?_ rfl
                clear hs; intro a hs
                refine go_end (by kernel_rfl) ?_
                replace hw := hw.up 2
                replace hw := hw.up 2
                replace hw := hw.up 2
                replace hw := hw.only 3
                exact round_end (w64 (v202 + 1)) (Option.some.inj H).symm ⟨hs.keep [2, 9, 16, 22, 23, 24, 25, 26, 27] (by kernel_rfl), hw⟩
              refine wp_block ?_
              refine go_seq_k fun K210 hK210 => ?_
              have hJ13 : ∀ (v216 : Bool) (a : Act) (w : World), Slots a 228 [(2, .int .u32 a2), (9, .int .i64 y19), (16, .slice Aa111 t108.length cc112), (22, .int .u32 y173), (23, .int .i64 t176), (24, .int .u32 t183), (25, .int .i64 t184), (26, .slice Aa194 t191.length cc195), (27, .int .i64 v202), (210, .bool v216)] → St [] w0 w [own 68 eSmemory_Memory (some (⟨g34, 0, none⟩ : Addr)) 1 [t192], own 23 (eI .u32) Aa194 cc195 t191, own 23 (eI .u32) Aa111 cc112 t108] → rivetlaw05_MemoryBack.j13 v202 v216 = some o → K210 a w := by
                intro v216 a w hs hw H
                unfold rivetlaw05_MemoryBack.j13 at H
                refine hK210 _ _ ?_
                refine go_cond hs v216 (by kernel_rfl) (fun hc => ?_) (fun hc => ?_)
                · replace H := ite_t H hc
                  have hb217 := hc
                  rw [hb217] at hs
                  refine go_seq_k fun K218 hK218 => ?_
                  refine go_region ?_
                  refine go_pvs 0 1 [6] hs (L' := [(6, .bool false)]) (by kernel_rfl) ?_ rfl
                  clear hs; intro a hs
                  refine go_end (by kernel_rfl) ?_
                  refine hK218 _ _ ?_
                  refine wp_ret ?_
                  refine ib_ret ?_
                  refine th_ret ?_
                  refine th_ret ?_
                  refine ib_ret ?_
                  refine th_ret ?_
                  rw [← hr201 _ (Option.some.inj H).symm] at HX201
                  replace H : some false = some r := HX201
                  obtain rfl := Option.some.inj H
                  refine ret1 (t := 6) (v := .bool false) hs (by kernel_rfl) (by kernel_rfl) ?_
                  exact ⟨rfl, hw.only 0⟩
                · replace H := ite_f H (ff hc)
                  have hb219 := hc
                  rw [hb219] at hs
                  refine wp_skip ?_
                  refine ib_norm ?_
                  replace hw := hw.up 2
                  replace hw := hw.up 2
                  replace hw := hw.up 2
                  replace hw := hw.only 3
                  exact hJ14 _ _ (hs.keep [2, 9, 16, 22, 23, 24, 25, 26, 27] (by kernel_rfl)) hw H
              refine q_region (by kernel_rfl) (by kernel_rfl) ?_
              refine q_pvs 0 6 [2, 9, 16, 22, 23, 24, 25, 26, 27, 200] hs (L' := [(2, .int .u32 a2), (9, .int .i64 y19), (16, .slice Aa111 t108.length cc112), (22, .int .u32 y173), (23, .int .i64 t176), (24, .int .u32 t183), (25, .int .i64 t184), (26, .slice Aa194 t191.length cc195), (27, .int .i64 v202), (200, .bool (v202 != (w64 (wu32 (y173.tdiv 4)))))]) (by kernel_rfl) ?_ rfl
              clear hs; intro a hs
              cases hb211 : (v202 != (w64 (wu32 (y173.tdiv 4))))
              · replace H := ite_t H (bne_eq_false_iff_eq.1 hb211)
                rw [hb211] at hs
                refine q_pvs 6 16 [2, 9, 16, 22, 23, 24, 25, 26, 27, 210] hs (L' := [(2, .int .u32 a2), (9, .int .i64 y19), (16, .slice Aa111 t108.length cc112), (22, .int .u32 y173), (23, .int .i64 t176), (24, .int .u32 t183), (25, .int .i64 t184), (26, .slice Aa194 t191.length cc195), (27, .int .i64 v202), (210, .bool false)]) (by kernel_rfl) ?_ rfl
                clear hs; intro a hs
                refine q_end (by kernel_rfl) ?_
                intro wq hbq
                replace hw := hw.behind hbq
                replace hw := hw.up 2
                replace hw := hw.up 2
                replace hw := hw.up 2
                replace hw := hw.only 3
                exact hJ13 false _ _ (hs.keep [2, 9, 16, 22, 23, 24, 25, 26, 27, 210] (by kernel_rfl)) hw H
              · replace H := ite_f H (bne_iff_ne.1 hb211)
                rw [hb211] at hs
                refine q_pvs 6 8 [2, 9, 16, 22, 23, 24, 25, 26, 27, 200, 201, 202] hs (L' := [(2, .int .u32 a2), (9, .int .i64 y19), (16, .slice Aa111 t108.length cc112), (22, .int .u32 y173), (23, .int .i64 t176), (24, .int .u32 t183), (25, .int .i64 t184), (26, .slice Aa194 t191.length cc195), (27, .int .i64 v202), (200, .bool true), (201, .slice Aa194 t191.length cc195), (202, .int .i64 v202)]) (by kernel_rfl) ?_ rfl
                clear hs; intro a hs
                obtain ⟨hp212, H⟩ := ite_only H
                obtain ⟨ad213, rfl⟩ := (Rd.of_own (hw.up 1)).some hp212.1 hp212.2
                refine q_run hs (op := (Op.indexAddr 22 (Operand.tmp 201) (Operand.tmp 202))) (ty := 0) (dst := some 203) (g := some (5, true)) (by kernel_rfl) (by kernel_rfl) (by kernel_rfl) (fun wx hbx => (x_idx (T := 23) (sz := 1) (a := ad213) (n := t191.length) (cap := cc195) (k := .i64) (i := v202) (by kernel_rfl) (by kernel_rfl) (by kernel_rfl) (by kernel_rfl) hp212.1 hp212.2)) [2, 9, 16, 22, 23, 24, 25, 26, 27, 200, 203] (L' := [(2, .int .u32 a2), (9, .int .i64 y19), (16, .slice Aa111 t108.length cc112), (22, .int .u32 y173), (23, .int .i64 t176), (24, .int .u32 t183), (25, .int .i64 t184), (26, .slice (some ad213) t191.length cc195), (27, .int .i64 v202), (200, .bool true), (203, .pointer (some (ad213.add (v202.toNat * 1))))]) (by kernel_rfl) ?_
                clear hs; intro a hs
                refine q_run hs (op := (Op.load 23 (Operand.tmp 203))) (ty := 23) (dst := some 204) (g := some (5, true)) (by kernel_rfl) (by kernel_rfl) (by kernel_rfl) (fun wx hbx => (x_ld (E := (eI .u32)) (off := 0) (p := ad213.add (v202.toNat * 1)) (v := .int .u32 (ix (eI .u32).d t191 v202)) ((Rd.of_own (hw.up 1)).below hbx) hp212.1 hp212.2 (by kernel_rfl) rfl (by kernel_rfl) (by kernel_rfl))) [2, 9, 16, 22, 23, 24, 25, 26, 27, 200, 204] (L' := [(2, .int .u32 a2), (9, .int .i64 y19), (16, .slice Aa111 t108.length cc112), (22, .int .u32 y173), (23, .int .i64 t176), (24, .int .u32 t183), (25, .int .i64 t184), (26, .slice (some ad213) t191.length cc195), (27, .int .i64 v202), (200, .bool true), (204, .int .u32 (ix (eI .u32).d t191 v202))]) (by kernel_rfl) ?_
                clear hs; intro a hs
                refine q_pvs 10 12 [2, 9, 16, 22, 23, 24, 25, 26, 27, 200, 204, 205, 206] hs (L' := [(2, .int .u32 a2), (9, .int .i64 y19), (16, .slice Aa111 t108.length cc112), (22, .int .u32 y173), (23, .int .i64 t176), (24, .int .u32 t183), (25, .int .i64 t184), (26, .slice (some ad213) t191.length cc195), (27, .int .i64 v202), (200, .bool true), (204, .int .u32 (ix (eI .u32).d t191 v202)), (205, .slice Aa111 t108.length cc112), (206, .int .i64 v202)]) (by kernel_rfl) ?_ rfl
                clear hs; intro a hs
                obtain ⟨hp214, H⟩ := ite_only H
                obtain ⟨ad215, rfl⟩ := (Rd.of_own (hw.up 2)).some hp214.1 hp214.2
                refine q_run hs (op := (Op.indexAddr 22 (Operand.tmp 205) (Operand.tmp 206))) (ty := 0) (dst := some 207) (g := some (5, true)) (by kernel_rfl) (by kernel_rfl) (by kernel_rfl) (fun wx hbx => (x_idx (T := 23) (sz := 1) (a := ad215) (n := t108.length) (cap := cc112) (k := .i64) (i := v202) (by kernel_rfl) (by kernel_rfl) (by kernel_rfl) (by kernel_rfl) hp214.1 hp214.2)) [2, 9, 16, 22, 23, 24, 25, 26, 27, 200, 204, 207] (L' := [(2, .int .u32 a2), (9, .int .i64 y19), (16, .slice (some ad215) t108.length cc112), (22, .int .u32 y173), (23, .int .i64 t176), (24, .int .u32 t183), (25, .int .i64 t184), (26, .slice (some ad213) t191.length cc195), (27, .int .i64 v202), (200, .bool true), (204, .int .u32 (ix (eI .u32).d t191 v202)), (207, .pointer (some (ad215.add (v202.toNat * 1))))]) (by kernel_rfl) ?_
                clear hs; intro a hs
                refine q_run hs (op := (Op.load 23 (Operand.tmp 207))) (ty := 23) (dst := some 208) (g := some (5, true)) (by kernel_rfl) (by kernel_rfl) (by kernel_rfl) (fun wx hbx => (x_ld (E := (eI .u32)) (off := 0) (p := ad215.add (v202.toNat * 1)) (v := .int .u32 (ix (eI .u32).d t108 v202)) ((Rd.of_own (hw.up 2)).below hbx) hp214.1 hp214.2 (by kernel_rfl) rfl (by kernel_rfl) (by kernel_rfl))) [2, 9, 16, 22, 23, 24, 25, 26, 27, 200, 204, 208] (L' := [(2, .int .u32 a2), (9, .int .i64 y19), (16, .slice (some ad215) t108.length cc112), (22, .int .u32 y173), (23, .int .i64 t176), (24, .int .u32 t183), (25, .int .i64 t184), (26, .slice (some ad213) t191.length cc195), (27, .int .i64 v202), (200, .bool true), (204, .int .u32 (ix (eI .u32).d t191 v202)), (208, .int .u32 (ix (eI .u32).d t108 v202))]) (by kernel_rfl) ?_
                clear hs; intro a hs
                refine q_pvs 14 16 [2, 9, 16, 22, 23, 24, 25, 26, 27, 210] hs (L' := [(2, .int .u32 a2), (9, .int .i64 y19), (16, .slice (some ad215) t108.length cc112), (22, .int .u32 y173), (23, .int .i64 t176), (24, .int .u32 t183), (25, .int .i64 t184), (26, .slice (some ad213) t191.length cc195), (27, .int .i64 v202), (210, .bool ((ix (eI .u32).d t191 v202) != (ix (eI .u32).d t108 v202)))]) (by kernel_rfl) ?_ rfl
                clear hs; intro a hs
                refine q_end (by kernel_rfl) ?_
                intro wq hbq
                replace hw := hw.behind hbq
                replace hw := hw.up 2
                replace hw := hw.up 2
                replace hw := hw.up 2
                replace hw := hw.only 3
                exact hJ13 ((ix (eI .u32).d t191 v202) != (ix (eI .u32).d t108 v202)) _ _ (hs.keep [2, 9, 16, 22, 23, 24, 25, 26, 27, 210] (by kernel_rfl)) hw H
            refine go_seq_k fun K204 hK204 => ?_
            have hJ11 : ∀ (v206 : Bool) (a : Act) (w : World), Slots a 228 [(2, .int .u32 a2), (9, .int .i64 y19), (16, .slice Aa111 t108.length cc112), (22, .int .u32 y173), (23, .int .i64 t176), (24, .int .u32 t183), (25, .int .i64 t184), (26, .slice Aa194 t191.length cc195), (27, .int .i64 v202), (192, .bool v206)] → St [] w0 w [own 68 eSmemory_Memory (some (⟨g34, 0, none⟩ : Addr)) 1 [t192], own 23 (eI .u32) Aa194 cc195 t191, own 23 (eI .u32) Aa111 cc112 t108] → rivetlaw05_MemoryBack.j11 v202 y173 t191 t108 v206 = some o → K204 a w := by
              intro v206 a w hs hw H
              unfold rivetlaw05_MemoryBack.j11 at H
              refine hK204 _ _ ?_
              refine go_cond hs v206 (by kernel_rfl) (fun hc => ?_) (fun hc => ?_)
              · replace H := ite_t H hc
                have hb207 := hc
                rw [hb207] at hs
                refine wp_skip ?_
                replace hw := hw.up 2
                replace hw := hw.up 2
                replace hw := hw.up 2
                replace hw := hw.only 3
                exact hJ12 _ _ (hs.keep [2, 9, 16, 22, 23, 24, 25, 26, 27] (by kernel_rfl)) hw H
              · replace H := ite_f H (ff hc)
                have hb208 := hc
                rw [hb208] at hs
                refine wp_exit ?_
                refine th_exit ?_
                refine th_exit ?_
                refine in_block ?_
                replace hw := hw.up 2
                replace hw := hw.up 2
                replace hw := hw.up 2
                replace hw := hw.only 3
                rw [← hr201 _ (Option.some.inj H).symm] at HX201
                exact hJ15 _ _ (hs.keep [2, 9, 23, 24, 25, 26] (by kernel_rfl)) hw HX201
            refine go_region ?_
            refine go_pvs 0 4 [2, 9, 16, 22, 23, 24, 25, 26, 27, 187] hs (L' := [(2, .int .u32 a2), (9, .int .i64 y19), (16, .slice Aa111 t108.length cc112), (22, .int .u32 y173), (23, .int .i64 t176), (24, .int .u32 t183), (25, .int .i64 t184), (26, .slice Aa194 t191.length cc195), (27, .int .i64 v202), (187, .bool (decide (v202 < y19)))]) (by kernel_rfl) ?_ rfl
            clear hs; intro a hs
            cases hb205 : (decide (v202 < y19))
            · replace H := ite_f H (of_decide_eq_false hb205)
              rw [hb205] at hs
              refine go_pvs 4 9 [2, 9, 16, 22, 23, 24, 25, 26, 27, 192] hs (L' := [(2, .int .u32 a2), (9, .int .i64 y19), (16, .slice Aa111 t108.length cc112), (22, .int .u32 y173), (23, .int .i64 t176), (24, .int .u32 t183), (25, .int .i64 t184), (26, .slice Aa194 t191.length cc195), (27, .int .i64 v202), (192, .bool false)]) (by kernel_rfl) ?_ rfl
              clear hs; intro a hs
              refine go_end (by kernel_rfl) ?_
              replace hw := hw.up 2
              replace hw := hw.up 2
              replace hw := hw.up 2
              replace hw := hw.only 3
              exact hJ11 false _ _ (hs.keep [2, 9, 16, 22, 23, 24, 25, 26, 27, 192] (by kernel_rfl)) hw H
            · replace H := ite_t H (of_decide_eq_true hb205)
              rw [hb205] at hs
              refine go_pvs 4 9 [2, 9, 16, 22, 23, 24, 25, 26, 27, 192] hs (L' := [(2, .int .u32 a2), (9, .int .i64 y19), (16, .slice Aa111 t108.length cc112), (22, .int .u32 y173), (23, .int .i64 t176), (24, .int .u32 t183), (25, .int .i64 t184), (26, .slice Aa194 t191.length cc195), (27, .int .i64 v202), (192, .bool (decide (v202 < (t191.length : Int))))]) (by kernel_rfl) ?_ rfl
              clear hs; intro a hs
              refine go_end (by kernel_rfl) ?_
              replace hw := hw.up 2
              replace hw := hw.up 2
              replace hw := hw.up 2
              replace hw := hw.only 3
              exact hJ11 (decide (v202 < (t191.length : Int))) _ _ (hs.keep [2, 9, 16, 22, 23, 24, 25, 26, 27, 192] (by kernel_rfl)) hw H
          clear H
          refine go_loop (σ := Smemory_Memory × Int) (fun σ a w => Slots a 228 [(2, .int .u32 a2), (8, .slice Aa13 (l0.take (mnn (l0.length : Int) 12 : Int).toNat).length cc14), (9, .int .i64 y19), (10, .pointer (some (⟨g34, 0, none⟩ : Addr))), (12, .int .u32 y90), (16, .slice Aa111 t108.length cc112), (17, .int .i64 σ.2)] ∧ St [] w0 w [own 68 eSmemory_Memory (some (⟨g34, 0, none⟩ : Addr)) 1 [σ.1], own 23 (eI .u32) Aa111 cc112 t108]) hl127 (by exact ⟨hs.keep [2, 8, 9, 10, 12, 16, 17] (by kernel_rfl), hw⟩) ?_
          rintro ⟨v128, v129⟩ a w ⟨hs, hw⟩ o H hr127
          replace hs : Slots a 228 [(2, .int .u32 a2), (8, .slice Aa13 (l0.take (mnn (l0.length : Int) 12 : Int).toNat).length cc14), (9, .int .i64 y19), (10, .pointer (some (⟨g34, 0, none⟩ : Addr))), (12, .int .u32 y90), (16, .slice Aa111 t108.length cc112), (17, .int .i64 v129)] := hs
          replace hw : St [] w0 w [own 68 eSmemory_Memory (some (⟨g34, 0, none⟩ : Addr)) 1 [v128], own 23 (eI .u32) Aa111 cc112 t108] := hw
          replace H : rivetlaw05_MemoryBack.b127 y19 l0 t108 y90 v128 v129 = some o := H
          unfold rivetlaw05_MemoryBack.b127 at H
          refine go_seq_k fun K130 hK130 => ?_
          refine go_seq_k fun K131 hK131 => ?_
          refine go_region ?_
          refine go_pvs 0 3 [2, 8, 9, 10, 12, 16, 17, 116] hs (L' := [(2, .int .u32 a2), (8, .slice Aa13 (l0.take (mnn (l0.length : Int) 12 : Int).toNat).length cc14), (9, .int .i64 y19), (10, .pointer (some (⟨g34, 0, none⟩ : Addr))), (12, .int .u32 y90), (16, .slice Aa111 t108.length cc112), (17, .int .i64 v129), (116, .bool (decide (v129 < y19)))]) (by kernel_rfl) ?_ rfl
          clear hs; intro a hs
          refine go_end (by kernel_rfl) ?_
          refine hK131 _ _ ?_
          refine go_cond hs (decide (v129 < y19)) (by kernel_rfl) (fun hc => ?_) (fun hc => ?_)
          · replace H := ite_t H (of_decide_eq_true hc)
            have hb132 := hc
            rw [hb132] at hs
            refine wp_skip ?_
            refine hK130 _ _ ?_
            refine go_seq_k fun K133 hK133 => ?_
            refine wp_block ?_
            refine go_seq_k fun K134 hK134 => ?_
            refine go_region ?_
            refine go_pvs 0 1 [2, 8, 9, 10, 12, 16, 17, 18] hs (L' := [(2, .int .u32 a2), (8, .slice Aa13 (l0.take (mnn (l0.length : Int) 12 : Int).toNat).length cc14), (9, .int .i64 y19), (10, .pointer (some (⟨g34, 0, none⟩ : Addr))), (12, .int .u32 y90), (16, .slice Aa111 t108.length cc112), (17, .int .i64 v129), (18, .int .i64 0)]) (by kernel_rfl) ?_ rfl
            clear hs; intro a hs
            refine go_end (by kernel_rfl) ?_
            refine hK134 _ _ ?_
            refine name_k fun K135 hK135 => ?_
            refine wp_block ?_
            obtain ⟨e136, hl136, HX136⟩ := bind_some H
            have hJ9 : ∀ (v169 : Smemory_Memory) (a : Act) (w : World), Slots a 228 [(2, .int .u32 a2), (8, .slice Aa13 (l0.take (mnn (l0.length : Int) 12 : Int).toNat).length cc14), (9, .int .i64 y19), (10, .pointer (some (⟨g34, 0, none⟩ : Addr))), (12, .int .u32 y90), (16, .slice Aa111 t108.length cc112), (17, .int .i64 v129)] → St [] w0 w [own 68 eSmemory_Memory (some (⟨g34, 0, none⟩ : Addr)) 1 [v169], own 23 (eI .u32) Aa111 cc112 t108] → rivetlaw05_MemoryBack.j9 v129 v169 = some o → K135 a w := by
              intro v169 a w hs hw H
              unfold rivetlaw05_MemoryBack.j9 at H
              refine hK135 _ _ ?_
              refine ib_norm ?_
              refine hK133 _ _ ?_
              refine go_region ?_
              refine go_pvs 0 3 [2, 8, 9, 10, 12, 16, 17] hs (L' := [(2, .int .u32 a2), (8, .slice Aa13 (l0.take (mnn (l0.length : Int) 12 : Int).toNat).length cc14), (9, .int .i64 y19), (10, .pointer (some (⟨g34, 0, none⟩ : Addr))), (12, .int .u32 y90), (16, .slice Aa111 t108.length cc112), (17, .int .i64 (w64 (v129 + 1)))]) (by kernel_rfl) ?_ rfl
              clear hs; intro a hs
              refine go_end (by kernel_rfl) ?_
              replace hw := hw.up 1
              replace hw := hw.up 1
              replace hw := hw.only 2
              exact round_end (v169, w64 (v129 + 1)) (Option.some.inj H).symm ⟨hs.keep [2, 8, 9, 10, 12, 16, 17] (by kernel_rfl), hw⟩
            clear H
            refine go_loop (σ := Smemory_Memory × Int) (fun σ a w => Slots a 228 [(2, .int .u32 a2), (8, .slice Aa13 (l0.take (mnn (l0.length : Int) 12 : Int).toNat).length cc14), (9, .int .i64 y19), (10, .pointer (some (⟨g34, 0, none⟩ : Addr))), (12, .int .u32 y90), (16, .slice Aa111 t108.length cc112), (17, .int .i64 v129), (18, .int .i64 σ.2)] ∧ St [] w0 w [own 68 eSmemory_Memory (some (⟨g34, 0, none⟩ : Addr)) 1 [σ.1], own 23 (eI .u32) Aa111 cc112 t108]) hl136 (by exact ⟨hs.keep [2, 8, 9, 10, 12, 16, 17, 18] (by kernel_rfl), hw⟩) ?_
            rintro ⟨v137, v138⟩ a w ⟨hs, hw⟩ o H hr136
            replace hs : Slots a 228 [(2, .int .u32 a2), (8, .slice Aa13 (l0.take (mnn (l0.length : Int) 12 : Int).toNat).length cc14), (9, .int .i64 y19), (10, .pointer (some (⟨g34, 0, none⟩ : Addr))), (12, .int .u32 y90), (16, .slice Aa111 t108.length cc112), (17, .int .i64 v129), (18, .int .i64 v138)] := hs
            replace hw : St [] w0 w [own 68 eSmemory_Memory (some (⟨g34, 0, none⟩ : Addr)) 1 [v137], own 23 (eI .u32) Aa111 cc112 t108] := hw
            replace H : rivetlaw05_MemoryBack.b136 v129 l0 t108 y90 v137 v138 = some o := H
            unfold rivetlaw05_MemoryBack.b136 at H
            refine go_seq_k fun K139 hK139 => ?_
            refine go_seq_k fun K140 hK140 => ?_
            refine go_region ?_
            refine go_pvs 0 2 [2, 8, 9, 10, 12, 16, 17, 18, 120] hs (L' := [(2, .int .u32 a2), (8, .slice Aa13 (l0.take (mnn (l0.length : Int) 12 : Int).toNat).length cc14), (9, .int .i64 y19), (10, .pointer (some (⟨g34, 0, none⟩ : Addr))), (12, .int .u32 y90), (16, .slice Aa111 t108.length cc112), (17, .int .i64 v129), (18, .int .i64 v138), (120, .bool (decide (v138 < 4)))]) (by kernel_rfl) ?_ rfl
            clear hs; intro a hs
            refine go_end (by kernel_rfl) ?_
            refine hK140 _ _ ?_
            refine go_cond hs (decide (v138 < 4)) (by kernel_rfl) (fun hc => ?_) (fun hc => ?_)
            · replace H := ite_t H (of_decide_eq_true hc)
              have hb141 := hc
              rw [hb141] at hs
              refine wp_skip ?_
              refine hK139 _ _ ?_
              refine go_seq_k fun K142 hK142 => ?_
              have hJ8 : ∀ (v167 : Smemory_Memory) (a : Act) (w : World), Slots a 228 [(2, .int .u32 a2), (8, .slice Aa13 (l0.take (mnn (l0.length : Int) 12 : Int).toNat).length cc14), (9, .int .i64 y19), (10, .pointer (some (⟨g34, 0, none⟩ : Addr))), (12, .int .u32 y90), (16, .slice Aa111 t108.length cc112), (17, .int .i64 v129), (18, .int .i64 v138)] → St [] w0 w [own 68 eSmemory_Memory (some (⟨g34, 0, none⟩ : Addr)) 1 [v167], own 23 (eI .u32) Aa111 cc112 t108] → rivetlaw05_MemoryBack.j8 v138 v167 = some o → K142 a w := by
                intro v167 a w hs hw H
                unfold rivetlaw05_MemoryBack.j8 at H
                refine hK142 _ _ ?_
                refine go_region ?_
                refine go_pvs 0 3 [2, 8, 9, 10, 12, 16, 17, 18] hs (L' := [(2, .int .u32 a2), (8, .slice Aa13 (l0.take (mnn (l0.length : Int) 12 : Int).toNat).length cc14), (9, .int .i64 y19), (10, .pointer (some (⟨g34, 0, none⟩ : Addr))), (12, .int .u32 y90), (16, .slice Aa111 t108.length cc112), (17, .int .i64 v129), (18, .int .i64 (w64 (v138 + 1)))]) (by kernel_rfl) ?_ rfl
                clear hs; intro a hs
                refine go_end (by kernel_rfl) ?_
                replace hw := hw.up 1
                replace hw := hw.up 1
                replace hw := hw.only 2
                exact round_end (v167, w64 (v138 + 1)) (Option.some.inj H).symm ⟨hs.keep [2, 8, 9, 10, 12, 16, 17, 18] (by kernel_rfl), hw⟩
              refine wp_block ?_
              refine go_seq_k fun K143 hK143 => ?_
              refine go_region ?_
              refine go_pvs 0 6 [2, 8, 9, 10, 12, 16, 17, 18, 124, 129] hs (L' := [(2, .int .u32 a2), (8, .slice Aa13 (l0.take (mnn (l0.length : Int) 12 : Int).toNat).length cc14), (9, .int .i64 y19), (10, .pointer (some (⟨g34, 0, none⟩ : Addr))), (12, .int .u32 y90), (16, .slice Aa111 t108.length cc112), (17, .int .i64 v129), (18, .int .i64 v138), (124, .pointer (some (⟨g34, 0, none⟩ : Addr))), (129, .int .u32 (wu32 (w64 ((w64 (4 * v129)) + v138))))]) (by kernel_rfl) ?_ rfl
              clear hs; intro a hs
              obtain ⟨ks144, hgks144, hstks144, hbkks144⟩ := hw.lend 1
              obtain ⟨⟨t145, t146, t147⟩, hx148, H⟩ := bind_some H
              refine go_call hs (op := (Op.call { callee := (Callee.value (Operand.func 31)), args := #[(Operand.tmp 124), (Operand.tmp 129)], argTypes := #[26, 23] })) (ty := 60) (dst := some 130) (g := none) (by kernel_rfl) (by kernel_rfl) (by kernel_rfl) (f := 31) (args := #[.pointer (some (⟨g34, 0, none⟩ : Addr)), .int .u32 (wu32 (w64 ((w64 (4 * v129)) + v138)))]) (by kernel_rfl) (memory_Memory_Byte.calls ks144 (some (⟨g34, 0, none⟩ : Addr)) v137 (wu32 (w64 ((w64 (4 * v129)) + v138))) (t145, t146, t147) _ hgks144 hx148) ?_
              rintro e wd149 ⟨rfl, hw150⟩
              refine ⟨_, rfl, ?_⟩
              replace hw := hbkks144 _ _ hw150
              replace hw : St [] w0 _ [own 68 eSmemory_Memory (some (⟨g34, 0, none⟩ : Addr)) 1 [t147], own 23 (eI .u32) Aa111 cc112 t108] := hw
              intro a hs1
              replace hs : Slots a 228 [(2, .int .u32 a2), (8, .slice Aa13 (l0.take (mnn (l0.length : Int) 12 : Int).toNat).length cc14), (9, .int .i64 y19), (10, .pointer (some (⟨g34, 0, none⟩ : Addr))), (12, .int .u32 y90), (16, .slice Aa111 t108.length cc112), (17, .int .i64 v129), (18, .int .i64 v138), (130, .tuple #[.int .u8 t145, .int .i64 t146])] := hs1.keep [2, 8, 9, 10, 12, 16, 17, 18, 130] (by kernel_rfl)
              clear hs1
              refine go_pvs 7 12 [2, 8, 9, 10, 12, 16, 17, 18, 19, 20] hs (L' := [(2, .int .u32 a2), (8, .slice Aa13 (l0.take (mnn (l0.length : Int) 12 : Int).toNat).length cc14), (9, .int .i64 y19), (10, .pointer (some (⟨g34, 0, none⟩ : Addr))), (12, .int .u32 y90), (16, .slice Aa111 t108.length cc112), (17, .int .i64 v129), (18, .int .i64 v138), (19, .int .u8 t145), (20, .int .i64 t146)]) (by kernel_rfl) ?_ rfl
              clear hs; intro a hs
              refine go_end (by kernel_rfl) ?_
              refine hK143 _ _ ?_
              refine go_seq_k fun K151 hK151 => ?_
              refine go_region ?_
              refine go_pvs 0 2 [2, 8, 9, 10, 12, 16, 17, 18, 19, 20, 133, 134] hs (L' := [(2, .int .u32 a2), (8, .slice Aa13 (l0.take (mnn (l0.length : Int) 12 : Int).toNat).length cc14), (9, .int .i64 y19), (10, .pointer (some (⟨g34, 0, none⟩ : Addr))), (12, .int .u32 y90), (16, .slice Aa111 t108.length cc112), (17, .int .i64 v129), (18, .int .i64 v138), (19, .int .u8 t145), (20, .int .i64 t146), (133, .slice Aa13 (l0.take (mnn (l0.length : Int) 12 : Int).toNat).length cc14), (134, .int .i64 v129)]) (by kernel_rfl) ?_ rfl
              clear hs; intro a hs
              obtain ⟨hp152, H⟩ := ite_only H
              obtain ⟨ad153, rfl⟩ := (hc16 _ (hr0.old hw)).some hp152.1 hp152.2
              refine go_run hs (op := (Op.indexAddr 22 (Operand.tmp 133) (Operand.tmp 134))) (ty := 0) (dst := some 135) (g := none) (by kernel_rfl) (by kernel_rfl) (by kernel_rfl) (x_idx (T := 23) (sz := 1) (a := ad153) (n := (l0.take (mnn (l0.length : Int) 12 : Int).toNat).length) (cap := cc14) (k := .i64) (i := v129) (by kernel_rfl) (by kernel_rfl) (by kernel_rfl) (by kernel_rfl) hp152.1 hp152.2) [2, 8, 9, 10, 12, 16, 17, 18, 19, 20, 135] (L' := [(2, .int .u32 a2), (8, .slice (some ad153) (l0.take (mnn (l0.length : Int) 12 : Int).toNat).length cc14), (9, .int .i64 y19), (10, .pointer (some (⟨g34, 0, none⟩ : Addr))), (12, .int .u32 y90), (16, .slice Aa111 t108.length cc112), (17, .int .i64 v129), (18, .int .i64 v138), (19, .int .u8 t145), (20, .int .i64 t146), (135, .pointer (some (ad153.add (v129.toNat * 1))))]) (by kernel_rfl) ?_
              clear hs; intro a hs
              refine go_run hs (op := (Op.load 23 (Operand.tmp 135))) (ty := 23) (dst := some 136) (g := none) (by kernel_rfl) (by kernel_rfl) (by kernel_rfl) (x_ld (E := (eI .u32)) (off := 0) (p := ad153.add (v129.toNat * 1)) (v := .int .u32 (ix (eI .u32).d (l0.take (mnn (l0.length : Int) 12 : Int).toNat) v129)) (hc16 _ (hr0.old hw)) hp152.1 hp152.2 (by kernel_rfl) rfl (by kernel_rfl) (by kernel_rfl)) [2, 8, 9, 10, 12, 16, 17, 18, 19, 20, 136] (L' := [(2, .int .u32 a2), (8, .slice (some ad153) (l0.take (mnn (l0.length : Int) 12 : Int).toNat).length cc14), (9, .int .i64 y19), (10, .pointer (some (⟨g34, 0, none⟩ : Addr))), (12, .int .u32 y90), (16, .slice Aa111 t108.length cc112), (17, .int .i64 v129), (18, .int .i64 v138), (19, .int .u8 t145), (20, .int .i64 t146), (136, .int .u32 (ix (eI .u32).d (l0.take (mnn (l0.length : Int) 12 : Int).toNat) v129))]) (by kernel_rfl) ?_
              clear hs; intro a hs
              refine go_pvs 4 6 [2, 8, 9, 10, 12, 16, 17, 18, 19, 20, 136, 138] hs (L' := [(2, .int .u32 a2), (8, .slice (some ad153) (l0.take (mnn (l0.length : Int) 12 : Int).toNat).length cc14), (9, .int .i64 y19), (10, .pointer (some (⟨g34, 0, none⟩ : Addr))), (12, .int .u32 y90), (16, .slice Aa111 t108.length cc112), (17, .int .i64 v129), (18, .int .i64 v138), (19, .int .u8 t145), (20, .int .i64 t146), (136, .int .u32 (ix (eI .u32).d (l0.take (mnn (l0.length : Int) 12 : Int).toNat) v129)), (138, .int .i64 (w64 (8 * v138)))]) (by kernel_rfl) ?_ rfl
              clear hs; intro a hs
              obtain ⟨hp154, H⟩ := ite_only H
              refine go_run hs (op := (Op.binOp BinOp.shr 23 (Operand.tmp 136) (Operand.tmp 138) 3)) (ty := 23) (dst := some 139) (g := none) (by kernel_rfl) (by kernel_rfl) (by kernel_rfl) (x_shr (k := .u32) (k' := .i64) (m := (ix (eI .u32).d (l0.take (mnn (l0.length : Int) 12 : Int).toNat) v129)) (n := w64 (8 * v138)) (by kernel_rfl) (by kernel_rfl) hp154) [2, 8, 9, 10, 12, 16, 17, 18, 19, 20, 139] (L' := [(2, .int .u32 a2), (8, .slice (some ad153) (l0.take (mnn (l0.length : Int) 12 : Int).toNat).length cc14), (9, .int .i64 y19), (10, .pointer (some (⟨g34, 0, none⟩ : Addr))), (12, .int .u32 y90), (16, .slice Aa111 t108.length cc112), (17, .int .i64 v129), (18, .int .i64 v138), (19, .int .u8 t145), (20, .int .i64 t146), (139, .int .u32 (shr .u32 (ix (eI .u32).d (l0.take (mnn (l0.length : Int) 12 : Int).toNat) v129) (w64 (8 * v138))))]) (by kernel_rfl) ?_
              clear hs; intro a hs
              refine go_pvs 7 9 [2, 8, 9, 10, 12, 16, 17, 18, 19, 20, 21] hs (L' := [(2, .int .u32 a2), (8, .slice (some ad153) (l0.take (mnn (l0.length : Int) 12 : Int).toNat).length cc14), (9, .int .i64 y19), (10, .pointer (some (⟨g34, 0, none⟩ : Addr))), (12, .int .u32 y90), (16, .slice Aa111 t108.length cc112), (17, .int .i64 v129), (18, .int .i64 v138), (19, .int .u8 t145), (20, .int .i64 t146), (21, .int .u8 (wu8 (shr .u32 (ix (eI .u32).d (l0.take (mnn (l0.length : Int) 12 : Int).toNat) v129) (w64 (8 * v138)))))]) (by kernel_rfl) ?_ rfl
              clear hs; intro a hs
              obtain ⟨y155, hy155, H⟩ := nm_some H
              replace hs : Slots a 228 [(2, .int .u32 a2), (8, .slice (some ad153) (l0.take (mnn (l0.length : Int) 12 : Int).toNat).length cc14), (9, .int .i64 y19), (10, .pointer (some (⟨g34, 0, none⟩ : Addr))), (12, .int .u32 y90), (16, .slice Aa111 t108.length cc112), (17, .int .i64 v129), (18, .int .i64 v138), (19, .int .u8 t145), (20, .int .i64 t146), (21, .int .u8 y155)] := by rw [hy155]; exact hs
              refine go_end (by kernel_rfl) ?_
              refine hK151 _ _ ?_
              refine go_seq_k fun K156 hK156 => ?_
              have hJ7 : ∀ (v163 : Bool) (a : Act) (w : World), Slots a 228 [(2, .int .u32 a2), (8, .slice (some ad153) (l0.take (mnn (l0.length : Int) 12 : Int).toNat).length cc14), (9, .int .i64 y19), (10, .pointer (some (⟨g34, 0, none⟩ : Addr))), (12, .int .u32 y90), (16, .slice Aa111 t108.length cc112), (17, .int .i64 v129), (18, .int .i64 v138), (168, .bool v163)] → St [] w0 w [own 68 eSmemory_Memory (some (⟨g34, 0, none⟩ : Addr)) 1 [t147], own 23 (eI .u32) Aa111 cc112 t108] → rivetlaw05_MemoryBack.j7 v138 t147 v163 = some o → K156 a w := by
                intro v163 a w hs hw H
                unfold rivetlaw05_MemoryBack.j7 at H
                refine hK156 _ _ ?_
                refine go_cond hs v163 (by kernel_rfl) (fun hc => ?_) (fun hc => ?_)
                · replace H := ite_t H hc
                  have hb164 := hc
                  rw [hb164] at hs
                  refine go_seq_k fun K165 hK165 => ?_
                  refine go_region ?_
                  refine go_pvs 0 1 [6] hs (L' := [(6, .bool false)]) (by kernel_rfl) ?_ rfl
                  clear hs; intro a hs
                  refine go_end (by kernel_rfl) ?_
                  refine hK165 _ _ ?_
                  refine wp_ret ?_
                  refine ib_ret ?_
                  refine th_ret ?_
                  refine th_ret ?_
                  refine ib_ret ?_
                  refine th_ret ?_
                  refine ib_ret ?_
                  refine th_ret ?_
                  refine th_ret ?_
                  refine ib_ret ?_
                  refine th_ret ?_
                  rw [← hr136 _ (Option.some.inj H).symm] at HX136
                  replace H : some (Sum.inr (Ex.ret false)) = some _ := HX136
                  rw [← hr127 _ (Option.some.inj H).symm] at HX127
                  replace H : some false = some r := HX127
                  obtain rfl := Option.some.inj H
                  refine ret1 (t := 6) (v := .bool false) hs (by kernel_rfl) (by kernel_rfl) ?_
                  exact ⟨rfl, hw.only 0⟩
                · replace H := ite_f H (ff hc)
                  have hb166 := hc
                  rw [hb166] at hs
                  refine wp_skip ?_
                  refine ib_norm ?_
                  replace hw := hw.up 1
                  replace hw := hw.up 1
                  replace hw := hw.only 2
                  exact hJ8 t147 _ _ (hs.keep [2, 8, 9, 10, 12, 16, 17, 18] (by kernel_rfl)) hw H
              refine go_region ?_
              refine go_pvs 0 3 [2, 8, 9, 10, 12, 16, 17, 18, 19, 21, 143] hs (L' := [(2, .int .u32 a2), (8, .slice (some ad153) (l0.take (mnn (l0.length : Int) 12 : Int).toNat).length cc14), (9, .int .i64 y19), (10, .pointer (some (⟨g34, 0, none⟩ : Addr))), (12, .int .u32 y90), (16, .slice Aa111 t108.length cc112), (17, .int .i64 v129), (18, .int .i64 v138), (19, .int .u8 t145), (21, .int .u8 y155), (143, .bool (t146 != 0))]) (by kernel_rfl) ?_ rfl
              clear hs; intro a hs
              cases hb157 : (t146 != 0)
              · replace H := ite_t H (bne_eq_false_iff_eq.1 hb157)
                rw [hb157] at hs
                refine go_pvs 3 6 [2, 8, 9, 10, 12, 16, 17, 18, 19, 21, 143, 144, 145, 146] hs (L' := [(2, .int .u32 a2), (8, .slice (some ad153) (l0.take (mnn (l0.length : Int) 12 : Int).toNat).length cc14), (9, .int .i64 y19), (10, .pointer (some (⟨g34, 0, none⟩ : Addr))), (12, .int .u32 y90), (16, .slice Aa111 t108.length cc112), (17, .int .i64 v129), (18, .int .i64 v138), (19, .int .u8 t145), (21, .int .u8 y155), (143, .bool false), (144, .int .u8 t145), (145, .slice Aa111 t108.length cc112), (146, .int .i64 v129)]) (by kernel_rfl) ?_ rfl
                clear hs; intro a hs
                obtain ⟨hp158, H⟩ := ite_only H
                obtain ⟨ad159, rfl⟩ := (Rd.of_own (hw.up 1)).some hp158.1 hp158.2
                refine go_run hs (op := (Op.indexAddr 22 (Operand.tmp 145) (Operand.tmp 146))) (ty := 0) (dst := some 147) (g := some (2, false)) (by kernel_rfl) (by kernel_rfl) (by kernel_rfl) (x_idx (T := 23) (sz := 1) (a := ad159) (n := t108.length) (cap := cc112) (k := .i64) (i := v129) (by kernel_rfl) (by kernel_rfl) (by kernel_rfl) (by kernel_rfl) hp158.1 hp158.2) [2, 8, 9, 10, 12, 16, 17, 18, 19, 21, 143, 144, 147] (L' := [(2, .int .u32 a2), (8, .slice (some ad153) (l0.take (mnn (l0.length : Int) 12 : Int).toNat).length cc14), (9, .int .i64 y19), (10, .pointer (some (⟨g34, 0, none⟩ : Addr))), (12, .int .u32 y90), (16, .slice (some ad159) t108.length cc112), (17, .int .i64 v129), (18, .int .i64 v138), (19, .int .u8 t145), (21, .int .u8 y155), (143, .bool false), (144, .int .u8 t145), (147, .pointer (some (ad159.add (v129.toNat * 1))))]) (by kernel_rfl) ?_
                clear hs; intro a hs
                refine go_run hs (op := (Op.load 23 (Operand.tmp 147))) (ty := 23) (dst := some 148) (g := some (2, false)) (by kernel_rfl) (by kernel_rfl) (by kernel_rfl) (x_ld (E := (eI .u32)) (off := 0) (p := ad159.add (v129.toNat * 1)) (v := .int .u32 (ix (eI .u32).d t108 v129)) (Rd.of_own (hw.up 1)) hp158.1 hp158.2 (by kernel_rfl) rfl (by kernel_rfl) (by kernel_rfl)) [2, 8, 9, 10, 12, 16, 17, 18, 19, 21, 143, 144, 148] (L' := [(2, .int .u32 a2), (8, .slice (some ad153) (l0.take (mnn (l0.length : Int) 12 : Int).toNat).length cc14), (9, .int .i64 y19), (10, .pointer (some (⟨g34, 0, none⟩ : Addr))), (12, .int .u32 y90), (16, .slice (some ad159) t108.length cc112), (17, .int .i64 v129), (18, .int .i64 v138), (19, .int .u8 t145), (21, .int .u8 y155), (143, .bool false), (144, .int .u8 t145), (148, .int .u32 (ix (eI .u32).d t108 v129))]) (by kernel_rfl) ?_
                clear hs; intro a hs
                refine go_pvs 8 10 [2, 8, 9, 10, 12, 16, 17, 18, 19, 21, 143, 144, 148, 150] hs (L' := [(2, .int .u32 a2), (8, .slice (some ad153) (l0.take (mnn (l0.length : Int) 12 : Int).toNat).length cc14), (9, .int .i64 y19), (10, .pointer (some (⟨g34, 0, none⟩ : Addr))), (12, .int .u32 y90), (16, .slice (some ad159) t108.length cc112), (17, .int .i64 v129), (18, .int .i64 v138), (19, .int .u8 t145), (21, .int .u8 y155), (143, .bool false), (144, .int .u8 t145), (148, .int .u32 (ix (eI .u32).d t108 v129)), (150, .int .i64 (w64 (8 * v138)))]) (by kernel_rfl) ?_ rfl
                clear hs; intro a hs
                obtain ⟨hp160, H⟩ := ite_only H
                refine go_run hs (op := (Op.binOp BinOp.shr 23 (Operand.tmp 148) (Operand.tmp 150) 3)) (ty := 23) (dst := some 151) (g := some (2, false)) (by kernel_rfl) (by kernel_rfl) (by kernel_rfl) (x_shr (k := .u32) (k' := .i64) (m := (ix (eI .u32).d t108 v129)) (n := w64 (8 * v138)) (by kernel_rfl) (by kernel_rfl) hp160) [2, 8, 9, 10, 12, 16, 17, 18, 19, 21, 143, 144, 151] (L' := [(2, .int .u32 a2), (8, .slice (some ad153) (l0.take (mnn (l0.length : Int) 12 : Int).toNat).length cc14), (9, .int .i64 y19), (10, .pointer (some (⟨g34, 0, none⟩ : Addr))), (12, .int .u32 y90), (16, .slice (some ad159) t108.length cc112), (17, .int .i64 v129), (18, .int .i64 v138), (19, .int .u8 t145), (21, .int .u8 y155), (143, .bool false), (144, .int .u8 t145), (151, .int .u32 (shr .u32 (ix (eI .u32).d t108 v129) (w64 (8 * v138))))]) (by kernel_rfl) ?_
                clear hs; intro a hs
                refine go_pvs 11 15 [2, 8, 9, 10, 12, 16, 17, 18, 19, 21, 155] hs (L' := [(2, .int .u32 a2), (8, .slice (some ad153) (l0.take (mnn (l0.length : Int) 12 : Int).toNat).length cc14), (9, .int .i64 y19), (10, .pointer (some (⟨g34, 0, none⟩ : Addr))), (12, .int .u32 y90), (16, .slice (some ad159) t108.length cc112), (17, .int .i64 v129), (18, .int .i64 v138), (19, .int .u8 t145), (21, .int .u8 y155), (155, .bool (t145 != (wu8 (shr .u32 (ix (eI .u32).d t108 v129) (w64 (8 * v138))))))]) (by kernel_rfl) ?_ rfl
                clear hs; intro a hs
                cases hb161 : (t145 != (wu8 (shr .u32 (ix (eI .u32).d t108 v129) (w64 (8 * v138)))))
                · replace H := ite_t H (bne_eq_false_iff_eq.1 hb161)
                  rw [hb161] at hs
                  refine go_pvs 15 23 [2, 8, 9, 10, 12, 16, 17, 18, 19, 21, 155, 163] hs (L' := [(2, .int .u32 a2), (8, .slice (some ad153) (l0.take (mnn (l0.length : Int) 12 : Int).toNat).length cc14), (9, .int .i64 y19), (10, .pointer (some (⟨g34, 0, none⟩ : Addr))), (12, .int .u32 y90), (16, .slice (some ad159) t108.length cc112), (17, .int .i64 v129), (18, .int .i64 v138), (19, .int .u8 t145), (21, .int .u8 y155), (155, .bool false), (163, .bool ((wu32 (w64 ((w64 (4 * v129)) + v138))) != y90))]) (by kernel_rfl) ?_ rfl
                  clear hs; intro a hs
                  cases hb162 : ((wu32 (w64 ((w64 (4 * v129)) + v138))) != y90)
                  · replace H := ite_t H (bne_eq_false_iff_eq.1 hb162)
                    rw [hb162] at hs
                    refine go_pvs 23 28 [2, 8, 9, 10, 12, 16, 17, 18, 168] hs (L' := [(2, .int .u32 a2), (8, .slice (some ad153) (l0.take (mnn (l0.length : Int) 12 : Int).toNat).length cc14), (9, .int .i64 y19), (10, .pointer (some (⟨g34, 0, none⟩ : Addr))), (12, .int .u32 y90), (16, .slice (some ad159) t108.length cc112), (17, .int .i64 v129), (18, .int .i64 v138), (168, .bool false)]) (by kernel_rfl) ?_ rfl
                    clear hs; intro a hs
                    refine go_end (by kernel_rfl) ?_
                    replace hw := hw.up 1
                    replace hw := hw.up 1
                    replace hw := hw.only 2
                    exact hJ7 false _ _ (hs.keep [2, 8, 9, 10, 12, 16, 17, 18, 168] (by kernel_rfl)) hw H
                  · replace H := ite_f H (bne_iff_ne.1 hb162)
                    rw [hb162] at hs
                    refine go_pvs 23 28 [2, 8, 9, 10, 12, 16, 17, 18, 168] hs (L' := [(2, .int .u32 a2), (8, .slice (some ad153) (l0.take (mnn (l0.length : Int) 12 : Int).toNat).length cc14), (9, .int .i64 y19), (10, .pointer (some (⟨g34, 0, none⟩ : Addr))), (12, .int .u32 y90), (16, .slice (some ad159) t108.length cc112), (17, .int .i64 v129), (18, .int .i64 v138), (168, .bool (t145 != y155))]) (by kernel_rfl) ?_ rfl
                    clear hs; intro a hs
                    refine go_end (by kernel_rfl) ?_
                    replace hw := hw.up 1
                    replace hw := hw.up 1
                    replace hw := hw.only 2
                    exact hJ7 (t145 != y155) _ _ (hs.keep [2, 8, 9, 10, 12, 16, 17, 18, 168] (by kernel_rfl)) hw H
                · replace H := ite_f H (bne_iff_ne.1 hb161)
                  rw [hb161] at hs
                  refine go_pvs 15 28 [2, 8, 9, 10, 12, 16, 17, 18, 168] hs (L' := [(2, .int .u32 a2), (8, .slice (some ad153) (l0.take (mnn (l0.length : Int) 12 : Int).toNat).length cc14), (9, .int .i64 y19), (10, .pointer (some (⟨g34, 0, none⟩ : Addr))), (12, .int .u32 y90), (16, .slice (some ad159) t108.length cc112), (17, .int .i64 v129), (18, .int .i64 v138), (168, .bool true)]) (by kernel_rfl) ?_ rfl
                  clear hs; intro a hs
                  refine go_end (by kernel_rfl) ?_
                  replace hw := hw.up 1
                  replace hw := hw.up 1
                  replace hw := hw.only 2
                  exact hJ7 true _ _ (hs.keep [2, 8, 9, 10, 12, 16, 17, 18, 168] (by kernel_rfl)) hw H
              · replace H := ite_f H (bne_iff_ne.1 hb157)
                rw [hb157] at hs
                refine go_pvs 3 28 [2, 8, 9, 10, 12, 16, 17, 18, 168] hs (L' := [(2, .int .u32 a2), (8, .slice (some ad153) (l0.take (mnn (l0.length : Int) 12 : Int).toNat).length cc14), (9, .int .i64 y19), (10, .pointer (some (⟨g34, 0, none⟩ : Addr))), (12, .int .u32 y90), (16, .slice Aa111 t108.length cc112), (17, .int .i64 v129), (18, .int .i64 v138), (168, .bool true)]) (by kernel_rfl) ?_ rfl
                clear hs; intro a hs
                refine go_end (by kernel_rfl) ?_
                replace hw := hw.up 1
                replace hw := hw.up 1
                replace hw := hw.only 2
                exact hJ7 true _ _ (hs.keep [2, 8, 9, 10, 12, 16, 17, 18, 168] (by kernel_rfl)) hw H
            · replace H := ite_f H (of_decide_eq_false hc)
              have hb168 := hc
              rw [hb168] at hs
              refine wp_exit ?_
              refine th_exit ?_
              refine th_exit ?_
              refine in_block ?_
              replace hw := hw.up 1
              replace hw := hw.up 1
              replace hw := hw.only 2
              rw [← hr136 _ (Option.some.inj H).symm] at HX136
              exact hJ9 v137 _ _ (hs.keep [2, 8, 9, 10, 12, 16, 17] (by kernel_rfl)) hw HX136
          · replace H := ite_f H (of_decide_eq_false hc)
            have hb170 := hc
            rw [hb170] at hs
            refine wp_exit ?_
            refine th_exit ?_
            refine th_exit ?_
            refine in_block ?_
            replace hw := hw.up 1
            replace hw := hw.up 1
            replace hw := hw.only 2
            rw [← hr127 _ (Option.some.inj H).symm] at HX127
            exact hJ10 v128 _ _ (hs.keep [2, 9, 10, 12, 16] (by kernel_rfl)) hw HX127
        refine go_seq_k fun K117 hK117 => ?_
        have hJ5 : ∀ (v121 : Bool) (a : Act) (w : World), Slots a 228 [(2, .int .u32 a2), (8, .slice Aa13 (l0.take (mnn (l0.length : Int) 12 : Int).toNat).length cc14), (9, .int .i64 y19), (10, .pointer (some (⟨g34, 0, none⟩ : Addr))), (12, .int .u32 y90), (16, .slice Aa111 t108.length cc112), (113, .bool v121)] → St [] w0 w [own 68 eSmemory_Memory (some (⟨g34, 0, none⟩ : Addr)) 1 [t109], own 23 (eI .u32) Aa111 cc112 t108] → rivetlaw05_MemoryBack.j5 y19 l0 t108 y90 t109 a2 v121 = some r → K117 a w := by
          intro v121 a w hs hw H
          unfold rivetlaw05_MemoryBack.j5 at H
          refine hK117 _ _ ?_
          refine go_cond hs v121 (by kernel_rfl) (fun hc => ?_) (fun hc => ?_)
          · replace H := ite_t H hc
            have hb122 := hc
            rw [hb122] at hs
            refine go_seq_k fun K123 hK123 => ?_
            refine go_region ?_
            refine go_pvs 0 1 [6] hs (L' := [(6, .bool false)]) (by kernel_rfl) ?_ rfl
            clear hs; intro a hs
            refine go_end (by kernel_rfl) ?_
            refine hK123 _ _ ?_
            refine wp_ret ?_
            refine th_ret ?_
            obtain rfl := Option.some.inj H
            refine ret1 (t := 6) (v := .bool false) hs (by kernel_rfl) (by kernel_rfl) ?_
            exact ⟨rfl, hw.only 0⟩
          · replace H := ite_f H (ff hc)
            have hb124 := hc
            rw [hb124] at hs
            refine wp_skip ?_
            replace hw := hw.up 1
            replace hw := hw.up 1
            replace hw := hw.only 2
            exact hJ6 _ _ (hs.keep [2, 8, 9, 10, 12, 16] (by kernel_rfl)) hw H
        refine go_region ?_
        refine go_pvs 0 3 [2, 8, 9, 10, 12, 14, 15, 16, 98] hs (L' := [(2, .int .u32 a2), (8, .slice Aa13 (l0.take (mnn (l0.length : Int) 12 : Int).toNat).length cc14), (9, .int .i64 y19), (10, .pointer (some (⟨g34, 0, none⟩ : Addr))), (12, .int .u32 y90), (14, .int .u8 t100), (15, .int .i64 t101), (16, .slice Aa111 t108.length cc112), (98, .bool (t93 != 0))]) (by kernel_rfl) ?_ rfl
        clear hs; intro a hs
        cases hb118 : (t93 != 0)
        · replace H := ite_t H (bne_eq_false_iff_eq.1 hb118)
          rw [hb118] at hs
          refine go_pvs 3 7 [2, 8, 9, 10, 12, 14, 16, 102] hs (L' := [(2, .int .u32 a2), (8, .slice Aa13 (l0.take (mnn (l0.length : Int) 12 : Int).toNat).length cc14), (9, .int .i64 y19), (10, .pointer (some (⟨g34, 0, none⟩ : Addr))), (12, .int .u32 y90), (14, .int .u8 t100), (16, .slice Aa111 t108.length cc112), (102, .bool (t101 != 0))]) (by kernel_rfl) ?_ rfl
          clear hs; intro a hs
          cases hb119 : (t101 != 0)
          · replace H := ite_t H (bne_eq_false_iff_eq.1 hb119)
            rw [hb119] at hs
            refine go_pvs 7 13 [2, 8, 9, 10, 12, 16, 108] hs (L' := [(2, .int .u32 a2), (8, .slice Aa13 (l0.take (mnn (l0.length : Int) 12 : Int).toNat).length cc14), (9, .int .i64 y19), (10, .pointer (some (⟨g34, 0, none⟩ : Addr))), (12, .int .u32 y90), (16, .slice Aa111 t108.length cc112), (108, .bool (t100 != (wu8 a2)))]) (by kernel_rfl) ?_ rfl
            clear hs; intro a hs
            cases hb120 : (t100 != (wu8 a2))
            · replace H := ite_t H (bne_eq_false_iff_eq.1 hb120)
              rw [hb120] at hs
              refine go_pvs 13 18 [2, 8, 9, 10, 12, 16, 113] hs (L' := [(2, .int .u32 a2), (8, .slice Aa13 (l0.take (mnn (l0.length : Int) 12 : Int).toNat).length cc14), (9, .int .i64 y19), (10, .pointer (some (⟨g34, 0, none⟩ : Addr))), (12, .int .u32 y90), (16, .slice Aa111 t108.length cc112), (113, .bool ((t108.length : Int) != y19))]) (by kernel_rfl) ?_ rfl
              clear hs; intro a hs
              refine go_end (by kernel_rfl) ?_
              replace hw := hw.up 1
              replace hw := hw.up 1
              replace hw := hw.only 2
              exact hJ5 ((t108.length : Int) != y19) _ _ (hs.keep [2, 8, 9, 10, 12, 16, 113] (by kernel_rfl)) hw H
            · replace H := ite_f H (bne_iff_ne.1 hb120)
              rw [hb120] at hs
              refine go_pvs 13 18 [2, 8, 9, 10, 12, 16, 113] hs (L' := [(2, .int .u32 a2), (8, .slice Aa13 (l0.take (mnn (l0.length : Int) 12 : Int).toNat).length cc14), (9, .int .i64 y19), (10, .pointer (some (⟨g34, 0, none⟩ : Addr))), (12, .int .u32 y90), (16, .slice Aa111 t108.length cc112), (113, .bool true)]) (by kernel_rfl) ?_ rfl
              clear hs; intro a hs
              refine go_end (by kernel_rfl) ?_
              replace hw := hw.up 1
              replace hw := hw.up 1
              replace hw := hw.only 2
              exact hJ5 true _ _ (hs.keep [2, 8, 9, 10, 12, 16, 113] (by kernel_rfl)) hw H
          · replace H := ite_f H (bne_iff_ne.1 hb119)
            rw [hb119] at hs
            refine go_pvs 7 18 [2, 8, 9, 10, 12, 16, 113] hs (L' := [(2, .int .u32 a2), (8, .slice Aa13 (l0.take (mnn (l0.length : Int) 12 : Int).toNat).length cc14), (9, .int .i64 y19), (10, .pointer (some (⟨g34, 0, none⟩ : Addr))), (12, .int .u32 y90), (16, .slice Aa111 t108.length cc112), (113, .bool true)]) (by kernel_rfl) ?_ rfl
            clear hs; intro a hs
            refine go_end (by kernel_rfl) ?_
            replace hw := hw.up 1
            replace hw := hw.up 1
            replace hw := hw.only 2
            exact hJ5 true _ _ (hs.keep [2, 8, 9, 10, 12, 16, 113] (by kernel_rfl)) hw H
        · replace H := ite_f H (bne_iff_ne.1 hb118)
          rw [hb118] at hs
          refine go_pvs 3 18 [2, 8, 9, 10, 12, 16, 113] hs (L' := [(2, .int .u32 a2), (8, .slice Aa13 (l0.take (mnn (l0.length : Int) 12 : Int).toNat).length cc14), (9, .int .i64 y19), (10, .pointer (some (⟨g34, 0, none⟩ : Addr))), (12, .int .u32 y90), (16, .slice Aa111 t108.length cc112), (113, .bool true)]) (by kernel_rfl) ?_ rfl
          clear hs; intro a hs
          refine go_end (by kernel_rfl) ?_
          replace hw := hw.up 1
          replace hw := hw.up 1
          replace hw := hw.only 2
          exact hJ5 true _ _ (hs.keep [2, 8, 9, 10, 12, 16, 113] (by kernel_rfl)) hw H
    refine go_seq_k fun K36 hK36 => ?_
    have hJ2 : ∀ (v45 : Smemory_Memory) (v46 : Bool) (a : Act) (w : World), Slots a 228 [(1, .int .u16 a1), (2, .int .u32 a2), (8, .slice Aa13 (l0.take (mnn (l0.length : Int) 12 : Int).toNat).length cc14), (9, .int .i64 y19), (10, .pointer (some (⟨g34, 0, none⟩ : Addr))), (53, .bool v46)] → St [] w0 w [own 68 eSmemory_Memory (some (⟨g34, 0, none⟩ : Addr)) 1 [v45]] → rivetlaw05_MemoryBack.j2 y19 a2 a1 l0 v45 v46 = some r → K36 a w := by
      intro v45 v46 a w hs hw H
      unfold rivetlaw05_MemoryBack.j2 at H
      refine hK36 _ _ ?_
      refine go_cond hs v46 (by kernel_rfl) (fun hc => ?_) (fun hc => ?_)
      · replace H := ite_t H hc
        have hb47 := hc
        rw [hb47] at hs
        refine go_seq_k fun K48 hK48 => ?_
        refine go_region ?_
        refine go_pvs 0 1 [6] hs (L' := [(6, .bool false)]) (by kernel_rfl) ?_ rfl
        clear hs; intro a hs
        refine go_end (by kernel_rfl) ?_
        refine hK48 _ _ ?_
        refine wp_ret ?_
        refine th_ret ?_
        obtain rfl := Option.some.inj H
        refine ret1 (t := 6) (v := .bool false) hs (by kernel_rfl) (by kernel_rfl) ?_
        exact ⟨rfl, hw.only 0⟩
      · replace H := ite_f H (ff hc)
        have hb49 := hc
        rw [hb49] at hs
        refine wp_skip ?_
        replace hw := hw.only 1
        exact hJ3 v45 _ _ (hs.keep [1, 2, 8, 9, 10] (by kernel_rfl)) hw H
    refine go_region ?_
    refine go_pvs 0 3 [1, 2, 8, 9, 10, 11, 40] hs (L' := [(1, .int .u16 a1), (2, .int .u32 a2), (8, .slice Aa13 (l0.take (mnn (l0.length : Int) 12 : Int).toNat).length cc14), (9, .int .i64 y19), (10, .pointer (some (⟨g34, 0, none⟩ : Addr))), (11, .int .i64 t23), (40, .bool (!t4))]) (by kernel_rfl) ?_ rfl
    clear hs; intro a hs
    cases hb37 : (!t4)
    · replace H := ite_t H (nf hb37)
      rw [hb37] at hs
      refine go_pvs 3 11 [1, 2, 8, 9, 10, 48] hs (L' := [(1, .int .u16 a1), (2, .int .u32 a2), (8, .slice Aa13 (l0.take (mnn (l0.length : Int) 12 : Int).toNat).length cc14), (9, .int .i64 y19), (10, .pointer (some (⟨g34, 0, none⟩ : Addr))), (48, .bool (t23 != 0))]) (by kernel_rfl) ?_ rfl
      clear hs; intro a hs
      cases hb38 : (t23 != 0)
      · replace H := ite_t H (bne_eq_false_iff_eq.1 hb38)
        rw [hb38] at hs
        refine go_pvs 11 13 [1, 2, 8, 9, 10, 48, 49, 50] hs (L' := [(1, .int .u16 a1), (2, .int .u32 a2), (8, .slice Aa13 (l0.take (mnn (l0.length : Int) 12 : Int).toNat).length cc14), (9, .int .i64 y19), (10, .pointer (some (⟨g34, 0, none⟩ : Addr))), (48, .bool false), (49, .pointer (some (⟨g34, 0, none⟩ : Addr))), (50, .slice Aa13 (l0.take (mnn (l0.length : Int) 12 : Int).toNat).length cc14)]) (by kernel_rfl) ?_ rfl
        clear hs; intro a hs
        obtain ⟨ks39, hgks39, hstks39, hbkks39⟩ := hw.lend 1
        obtain ⟨⟨t40, t41⟩, hx42, H⟩ := bind_some H
        refine go_call hs (op := (Op.call { callee := (Callee.value (Operand.func 16)), args := #[(Operand.tmp 49), (Operand.const (Value.int IntKind.i64 0)), (Operand.tmp 50)], argTypes := #[26, 3, 22] })) (ty := 27) (dst := some 51) (g := some (10, false)) (by kernel_rfl) (by kernel_rfl) (by kernel_rfl) (f := 16) (args := #[.pointer (some (⟨g34, 0, none⟩ : Addr)), .int .i64 0, .slice Aa13 (l0.take (mnn (l0.length : Int) 12 : Int).toNat).length cc14]) (by kernel_rfl) (memory_Memory_Place.calls ks39 (some (⟨g34, 0, none⟩ : Addr)) x29 0 Aa13 cc14 (l0.take (mnn (l0.length : Int) 12 : Int).toNat) (t40, t41) _ hgks39 (fun wz hkz => (hc16 _ (hr0.old (hstks39 _ hkz)))) hx42) ?_
        rintro e wd43 ⟨rfl, hw44⟩
        refine ⟨_, rfl, ?_⟩
        replace hw := hbkks39 _ _ hw44
        replace hw : St [] w0 _ [own 68 eSmemory_Memory (some (⟨g34, 0, none⟩ : Addr)) 1 [t41]] := hw
        intro a hs1
        replace hs : Slots a 228 [(1, .int .u16 a1), (2, .int .u32 a2), (8, .slice Aa13 (l0.take (mnn (l0.length : Int) 12 : Int).toNat).length cc14), (9, .int .i64 y19), (10, .pointer (some (⟨g34, 0, none⟩ : Addr))), (48, .bool false), (51, .int .i64 t40)] := hs1.keep [1, 2, 8, 9, 10, 48, 51] (by kernel_rfl)
        clear hs1
        refine go_pvs 14 16 [1, 2, 8, 9, 10, 53] hs (L' := [(1, .int .u16 a1), (2, .int .u32 a2), (8, .slice Aa13 (l0.take (mnn (l0.length : Int) 12 : Int).toNat).length cc14), (9, .int .i64 y19), (10, .pointer (some (⟨g34, 0, none⟩ : Addr))), (53, .bool (t40 != 0))]) (by kernel_rfl) ?_ rfl
        clear hs; intro a hs
        refine go_end (by kernel_rfl) ?_
        replace hw := hw.only 1
        exact hJ2 t41 (t40 != 0) _ _ (hs.keep [1, 2, 8, 9, 10, 53] (by kernel_rfl)) hw H
      · replace H := ite_f H (bne_iff_ne.1 hb38)
        rw [hb38] at hs
        refine go_pvs 11 16 [1, 2, 8, 9, 10, 53] hs (L' := [(1, .int .u16 a1), (2, .int .u32 a2), (8, .slice Aa13 (l0.take (mnn (l0.length : Int) 12 : Int).toNat).length cc14), (9, .int .i64 y19), (10, .pointer (some (⟨g34, 0, none⟩ : Addr))), (53, .bool true)]) (by kernel_rfl) ?_ rfl
        clear hs; intro a hs
        refine go_end (by kernel_rfl) ?_
        replace hw := hw.only 1
        exact hJ2 x29 true _ _ (hs.keep [1, 2, 8, 9, 10, 53] (by kernel_rfl)) hw H
    · replace H := ite_f H (ff (nt hb37))
      rw [hb37] at hs
      refine go_pvs 3 16 [1, 2, 8, 9, 10, 53] hs (L' := [(1, .int .u16 a1), (2, .int .u32 a2), (8, .slice Aa13 (l0.take (mnn (l0.length : Int) 12 : Int).toNat).length cc14), (9, .int .i64 y19), (10, .pointer (some (⟨g34, 0, none⟩ : Addr))), (53, .bool true)]) (by kernel_rfl) ?_ rfl
      clear hs; intro a hs
      refine go_end (by kernel_rfl) ?_
      replace hw := hw.only 1
      exact hJ2 x29 true _ _ (hs.keep [1, 2, 8, 9, 10, 53] (by kernel_rfl)) hw H

end Go.Proofs.Ytpbfjcpndmmgoaa.T05
