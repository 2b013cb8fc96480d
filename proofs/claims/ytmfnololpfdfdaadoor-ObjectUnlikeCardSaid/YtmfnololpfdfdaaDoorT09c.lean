/- YtmfnololpfdfdaaDoorT09: Go functions told as plain ones, each with a proof that its call comes to what is told, part 3. Condition of each: that the plain function comes to a value. -/
import Derived.Test.YtmfnololpfdfdaaDoorT09b
namespace Go.Proofs.YtmfnololpfdfdaaDoor.T09
open Go Go.RowKit Go.Proofs.YtmfnololpfdfdaaDoor.E
set_option linter.unusedVariables false
set_option linter.unusedSimpArgs false

/-! rivet/rivetref09.May: function 16 -/
noncomputable def rivetref09_May.b26 (a0 : Sapi_Obj) (v27 : Int) : Option (Int ⊕ (Ex Int Unit)) := (if v27 < (a0.Sites.length : Int) then (if 0 ≤ v27 ∧ v27 < (a0.Sites.length : Int) then (if 0 ≤ (ix (eI .i64).d a0.Sites v27) ∧ (ix (eI .i64).d a0.Sites v27) < (a0.Words.length : Int) then (if (w64 (ix (eI .u32).d a0.Words (ix (eI .i64).d a0.Sites v27))) > (w64 (4 * (a0.Words.length : Int))) then some (.inr (.ret 8)) else some (.inl (w64 (v27 + 1)))) else none) else none) else some (.inr (.done ())))
noncomputable def rivetref09_May.j5 (v44 : Int) : Option (Int ⊕ (Ex Int Unit)) := some (.inl (w64 (v44 + 1)))
noncomputable def rivetref09_May.j4 (v44 : Int) (v59 : Bool) : Option (Int ⊕ (Ex Int Unit)) := (if v59 = true then some (.inr (.ret 9)) else rivetref09_May.j5 v44)
noncomputable def rivetref09_May.b43 (a0 : Sapi_Obj) (v44 : Int) : Option (Int ⊕ (Ex Int Unit)) := (if v44 < (a0.Syms.length : Int) then (if 0 ≤ v44 ∧ v44 < (a0.Syms.length : Int) then ((rivetref07_Name ((ix eSapi_Sym.d a0.Syms v44).Name)).bind fun t53 => ((if t53 = true then (if v44 > 0 then (if 0 ≤ v44 ∧ v44 < (a0.Syms.length : Int) then (if 0 ≤ (w64 (v44 - 1)) ∧ (w64 (v44 - 1)) < (a0.Syms.length : Int) then rivetref09_May.j4 v44 (Op.bytesLess ((ix eSapi_Sym.d a0.Syms v44).Name).toList ((ix eSapi_Sym.d a0.Syms (w64 (v44 - 1))).Name).toList || ((ix eSapi_Sym.d a0.Syms v44).Name).toList == ((ix eSapi_Sym.d a0.Syms (w64 (v44 - 1))).Name).toList) else none) else none) else rivetref09_May.j4 v44 false) else rivetref09_May.j4 v44 true))) else none) else some (.inr (.done ())))
noncomputable def rivetref09_May.j8 (v67 : Int) : Option (Int ⊕ (Ex Int Unit)) := some (.inl (w64 (v67 + 1)))
noncomputable def rivetref09_May.j7 (v67 : Int) (v79 : Bool) : Option (Int ⊕ (Ex Int Unit)) := (if v79 = true then some (.inr (.ret 8)) else rivetref09_May.j8 v67)
noncomputable def rivetref09_May.b66 (a0 : Sapi_Obj) (v67 : Int) : Option (Int ⊕ (Ex Int Unit)) := (if v67 < (a0.Syms.length : Int) then (if 0 ≤ v67 ∧ v67 < (a0.Syms.length : Int) then (nm ((ix eSapi_Sym.d a0.Syms v67).At) fun y75 => (if y75 < 0 then rivetref09_May.j7 v67 true else (if y75 > (w64 (4 * (a0.Words.length : Int))) then rivetref09_May.j7 v67 true else rivetref09_May.j7 v67 ((y75.tmod 4) != 0)))) else none) else some (.inr (.done ())))
noncomputable def rivetref09_May.j9 : Option Int := some 0
noncomputable def rivetref09_May.j6 (a0 : Sapi_Obj) : Option Int := ((loopO (fun (σ : Int) => rivetref09_May.b66 a0 σ) 0).bind fun e => match e with | .ret x => some x | .done e => rivetref09_May.j9)
noncomputable def rivetref09_May.j3 (a0 : Sapi_Obj) : Option Int := ((loopO (fun (σ : Int) => rivetref09_May.b43 a0 σ) 0).bind fun e => match e with | .ret x => some x | .done e => rivetref09_May.j6 a0)
noncomputable def rivetref09_May.j2 (a0 : Sapi_Obj) : Option Int := ((rivetref08_Rise a0.Sites (a0.Words.length : Int)).bind fun t17 => ((if t17 = true then ((loopO (fun (σ : Int) => rivetref09_May.b26 a0 σ) 0).bind fun e => match e with | .ret x => some x | .done e => rivetref09_May.j3 a0) else some 7)))
noncomputable def rivetref09_May.j1 (a0 : Sapi_Obj) (v10 : Bool) : Option Int := (if v10 = true then some 2 else rivetref09_May.j2 a0)
noncomputable def rivetref09_May (a0 : Sapi_Obj) : Option Int := (if (a0.Words.length : Int) > 1024 then rivetref09_May.j1 a0 true else rivetref09_May.j1 a0 (decide ((a0.Syms.length : Int) > 64)))
set_option maxRecDepth 100000 in
set_option maxHeartbeats 4000000 in
theorem rivetref09_May.calls (a0 : Sapi_Obj) (A0_1 : Option Addr) (c0_1 : Nat) (A0_2 : Option Addr) (c0_2 : Nat) (A0_3 : Option Addr) (c0_3 : Nat) (r : Int) (w0 : World) (hr0_1 : Rd w0 (eI .u32) A0_1 c0_1 a0.Words) (hr0_2 : Rd w0 (eI .i64) A0_2 c0_2 a0.Sites) (hr0_3 : Rd w0 eSapi_Sym A0_3 c0_3 a0.Syms) (H : rivetref09_May a0 = some r) :
    Calls Tryd.prog 16 #[.agg #[.slice A0_1 a0.Words.length c0_1, .slice A0_2 a0.Sites.length c0_2, .slice A0_3 a0.Syms.length c0_3]] w0 fun e w' => e = .returned (.int .i64 r) ∧ St [] w0 w' [] := by
 have hw : St [] w0 w0 [] := St.nil w0
 unfold rivetref09_May at H
 refine go_fn Tryd.func16 rfl 105 Tryd.ntmps16 [(0, .agg #[.slice A0_1 a0.Words.length c0_1, .slice A0_2 a0.Sites.length c0_2, .slice A0_3 a0.Syms.length c0_3])] (by kernel_rfl) rfl ?_
 intro a hs
 refine go_seq_k fun K1 hK1 => ?_
 refine go_region ?_
 obtain ⟨g2, wd3, hx4, hw⟩ := x_boxc (P := Tryd.prog) (elem := 26) (v := (Operand.tmp 0)) (ty := 0) (cs := [.slice A0_1 a0.Words.length c0_1, .slice A0_2 a0.Sites.length c0_2, .slice A0_3 a0.Syms.length c0_3]) hs hw (by kernel_rfl)
 refine go_run hs (op := (Op.box 26 (Operand.tmp 0))) (ty := 0) (dst := some 1) (g := none) (by kernel_rfl) (by kernel_rfl) (by kernel_rfl) hx4 [1] (L' := [(1, .pointer (some (⟨g2, 0, none⟩ : Addr)))]) (by kernel_rfl) ?_
 clear hs; intro a hs
 refine go_pvs 1 2 [1] hs (L' := [(1, .pointer (some (⟨g2, 0, none⟩ : Addr)))]) (by kernel_rfl) ?_ rfl
 clear hs; intro a hs
 refine go_end (by kernel_rfl) ?_
 refine hK1 _ _ ?_
 refine go_seq_k fun K6 hK6 => ?_
 refine go_region ?_
 refine go_pvs 0 1 [1, 8] hs (L' := [(1, .pointer (some (⟨g2, 0, none⟩ : Addr))), (8, .pointer (some (((⟨g2, 0, none⟩ : Addr) : Addr).add 0)))]) (by kernel_rfl) ?_ rfl
 clear hs; intro a hs
 refine go_run hs (op := (Op.load 22 (Operand.tmp 8))) (ty := 22) (dst := some 9) (g := none) (by kernel_rfl) (by kernel_rfl) (by kernel_rfl) (x_bld (g := g2) (o := 0) (p := ((⟨g2, 0, none⟩ : Addr) : Addr).add 0) (v := .slice A0_1 a0.Words.length c0_1) (hw.up 0) (by kernel_rfl) rfl (by kernel_rfl) (by kernel_rfl)) [1, 9] (L' := [(1, .pointer (some (⟨g2, 0, none⟩ : Addr))), (9, .slice A0_1 a0.Words.length c0_1)]) (by kernel_rfl) ?_
 clear hs; intro a hs
 refine go_pvs 2 4 [1, 3] hs (L' := [(1, .pointer (some (⟨g2, 0, none⟩ : Addr))), (3, .int .i64 (a0.Words.length : Int))]) (by kernel_rfl) ?_ rfl
 clear hs; intro a hs
 refine go_end (by kernel_rfl) ?_
 refine hK6 _ _ ?_
 refine go_seq_k fun K7 hK7 => ?_
 have hJ2 : ∀ (a : Act) (w : World), Slots a 105 [(1, .pointer (some (⟨g2, 0, none⟩ : Addr))), (3, .int .i64 (a0.Words.length : Int))] → St [] w0 w [box g2 26 [.slice A0_1 a0.Words.length c0_1, .slice A0_2 a0.Sites.length c0_2, .slice A0_3 a0.Syms.length c0_3]] → rivetref09_May.j2 a0 = some r → K7 a w := by
  intro a w hs hw H
  unfold rivetref09_May.j2 at H
  refine hK7 _ _ ?_
  refine go_seq_k fun K14 hK14 => ?_
  refine go_seq_k fun K15 hK15 => ?_
  refine go_region ?_
  refine go_pvs 0 1 [1, 3, 19] hs (L' := [(1, .pointer (some (⟨g2, 0, none⟩ : Addr))), (3, .int .i64 (a0.Words.length : Int)), (19, .pointer (some (((⟨g2, 0, none⟩ : Addr) : Addr).add 1)))]) (by kernel_rfl) ?_ rfl
  clear hs; intro a hs
  refine go_run hs (op := (Op.load 23 (Operand.tmp 19))) (ty := 23) (dst := some 20) (g := none) (by kernel_rfl) (by kernel_rfl) (by kernel_rfl) (x_bld (g := g2) (o := 1) (p := ((⟨g2, 0, none⟩ : Addr) : Addr).add 1) (v := .slice A0_2 a0.Sites.length c0_2) (hw.up 0) (by kernel_rfl) rfl (by kernel_rfl) (by kernel_rfl)) [1, 3, 20] (L' := [(1, .pointer (some (⟨g2, 0, none⟩ : Addr))), (3, .int .i64 (a0.Words.length : Int)), (20, .slice A0_2 a0.Sites.length c0_2)]) (by kernel_rfl) ?_
  clear hs; intro a hs
  refine go_pvs 2 3 [1, 3, 20, 21] hs (L' := [(1, .pointer (some (⟨g2, 0, none⟩ : Addr))), (3, .int .i64 (a0.Words.length : Int)), (20, .slice A0_2 a0.Sites.length c0_2), (21, .int .i64 (a0.Words.length : Int))]) (by kernel_rfl) ?_ rfl
  clear hs; intro a hs
  obtain ⟨t17, hx18, H⟩ := bind_some H
  refine go_call hs (op := (Op.call { callee := (Callee.value (Operand.func 36)), args := #[(Operand.tmp 20), (Operand.tmp 21)], argTypes := #[23, 3] })) (ty := 4) (dst := some 22) (g := none) (by kernel_rfl) (by kernel_rfl) (by kernel_rfl) (f := 36) (args := #[.slice A0_2 a0.Sites.length c0_2, .int .i64 (a0.Words.length : Int)]) (by kernel_rfl) (rivetref08_Rise.calls A0_2 c0_2 a0.Sites (a0.Words.length : Int) t17 _ (hr0_2.old hw) hx18) ?_
  rintro e wd19 ⟨rfl, hw20⟩
  refine ⟨_, rfl, ?_⟩
  replace hw := hw.call hw20
  intro a hs1
  replace hs : Slots a 105 [(1, .pointer (some (⟨g2, 0, none⟩ : Addr))), (3, .int .i64 (a0.Words.length : Int)), (22, .bool t17)] := hs1.keep [1, 3, 22] (by kernel_rfl)
  clear hs1
  refine go_pvs 4 5 [1, 3, 23] hs (L' := [(1, .pointer (some (⟨g2, 0, none⟩ : Addr))), (3, .int .i64 (a0.Words.length : Int)), (23, .bool (!t17))]) (by kernel_rfl) ?_ rfl
  clear hs; intro a hs
  refine go_end (by kernel_rfl) ?_
  refine hK15 _ _ ?_
  refine go_cond hs (!t17) (by kernel_rfl) (fun hc => ?_) (fun hc => ?_)
  ·replace H := ite_f H (ff (nt hc))
   have hb21 := hc
   rw [hb21] at hs
   refine go_seq_k fun K22 hK22 => ?_
   refine go_region ?_
   refine go_pvs 0 1 [2] hs (L' := [(2, .int .i64 7)]) (by kernel_rfl) ?_ rfl
   clear hs; intro a hs
   refine go_end (by kernel_rfl) ?_
   refine hK22 _ _ ?_
   refine wp_ret ?_
   refine th_ret ?_
   obtain rfl := Option.some.inj H
   refine ret1 (t := 2) (v := .int .i64 7) hs (by kernel_rfl) (by kernel_rfl) ?_
   exact ⟨rfl, hw.only 0⟩
  ·replace H := ite_t H (nf hc)
   have hb23 := hc
   rw [hb23] at hs
   refine wp_skip ?_
   refine hK14 _ _ ?_
   refine go_seq_k fun K24 hK24 => ?_
   refine go_seq_k fun K25 hK25 => ?_
   refine go_region ?_
   refine go_pvs 0 1 [1, 3, 4] hs (L' := [(1, .pointer (some (⟨g2, 0, none⟩ : Addr))), (3, .int .i64 (a0.Words.length : Int)), (4, .int .i64 0)]) (by kernel_rfl) ?_ rfl
   clear hs; intro a hs
   refine go_end (by kernel_rfl) ?_
   refine hK25 _ _ ?_
   refine wp_block ?_
   obtain ⟨e26, hl26, HX26⟩ := bind_some H
   have hJ3 : ∀ (a : Act) (w : World), Slots a 105 [(1, .pointer (some (⟨g2, 0, none⟩ : Addr))), (3, .int .i64 (a0.Words.length : Int))] → St [] w0 w [box g2 26 [.slice A0_1 a0.Words.length c0_1, .slice A0_2 a0.Sites.length c0_2, .slice A0_3 a0.Syms.length c0_3]] → rivetref09_May.j3 a0 = some r → K24 a w := by
    intro a w hs hw H
    unfold rivetref09_May.j3 at H
    refine hK24 _ _ ?_
    refine go_seq_k fun K41 hK41 => ?_
    refine go_seq_k fun K42 hK42 => ?_
    refine go_region ?_
    refine go_pvs 0 1 [1, 3, 5] hs (L' := [(1, .pointer (some (⟨g2, 0, none⟩ : Addr))), (3, .int .i64 (a0.Words.length : Int)), (5, .int .i64 0)]) (by kernel_rfl) ?_ rfl
    clear hs; intro a hs
    refine go_end (by kernel_rfl) ?_
    refine hK42 _ _ ?_
    refine wp_block ?_
    obtain ⟨e43, hl43, HX43⟩ := bind_some H
    have hJ6 : ∀ (a : Act) (w : World), Slots a 105 [(1, .pointer (some (⟨g2, 0, none⟩ : Addr))), (3, .int .i64 (a0.Words.length : Int))] → St [] w0 w [box g2 26 [.slice A0_1 a0.Words.length c0_1, .slice A0_2 a0.Sites.length c0_2, .slice A0_3 a0.Syms.length c0_3]] → rivetref09_May.j6 a0 = some r → K41 a w := by
     intro a w hs hw H
     unfold rivetref09_May.j6 at H
     refine hK41 _ _ ?_
     refine go_seq_k fun K64 hK64 => ?_
     refine go_seq_k fun K65 hK65 => ?_
     refine go_region ?_
     refine go_pvs 0 1 [1, 3, 6] hs (L' := [(1, .pointer (some (⟨g2, 0, none⟩ : Addr))), (3, .int .i64 (a0.Words.length : Int)), (6, .int .i64 0)]) (by kernel_rfl) ?_ rfl
     clear hs; intro a hs
     refine go_end (by kernel_rfl) ?_
     refine hK65 _ _ ?_
     refine wp_block ?_
     obtain ⟨e66, hl66, HX66⟩ := bind_some H
     have hJ9 : ∀ (a : Act) (w : World), Slots a 105 [] → St [] w0 w [box g2 26 [.slice A0_1 a0.Words.length c0_1, .slice A0_2 a0.Sites.length c0_2, .slice A0_3 a0.Syms.length c0_3]] → rivetref09_May.j9 = some r → K64 a w := by
      intro a w hs hw H
      unfold rivetref09_May.j9 at H
      refine hK64 _ _ ?_
      refine go_seq_k fun K84 hK84 => ?_
      refine go_region ?_
      refine go_pvs 0 1 [2] hs (L' := [(2, .int .i64 0)]) (by kernel_rfl) ?_ rfl
      clear hs; intro a hs
      refine go_end (by kernel_rfl) ?_
      refine hK84 _ _ ?_
      refine wp_ret ?_
      obtain rfl := Option.some.inj H
      refine ret1 (t := 2) (v := .int .i64 0) hs (by kernel_rfl) (by kernel_rfl) ?_
      exact ⟨rfl, hw.only 0⟩
     clear H
     refine go_loop (σ := Int) (fun σ a w => Slots a 105 [(1, .pointer (some (⟨g2, 0, none⟩ : Addr))), (3, .int .i64 (a0.Words.length : Int)), (6, .int .i64 σ)] ∧ St [] w0 w [box g2 26 [.slice A0_1 a0.Words.length c0_1, .slice A0_2 a0.Sites.length c0_2, .slice A0_3 a0.Syms.length c0_3]]) hl66 (by exact ⟨hs.keep [1, 3, 6] (by kernel_rfl), hw⟩) ?_
     rintro v67 a w ⟨hs, hw⟩ o H hr66
     replace hs : Slots a 105 [(1, .pointer (some (⟨g2, 0, none⟩ : Addr))), (3, .int .i64 (a0.Words.length : Int)), (6, .int .i64 v67)] := hs
     replace hw : St [] w0 w [box g2 26 [.slice A0_1 a0.Words.length c0_1, .slice A0_2 a0.Sites.length c0_2, .slice A0_3 a0.Syms.length c0_3]] := hw
     replace H : rivetref09_May.b66 a0 v67 = some o := H
     unfold rivetref09_May.b66 at H
     refine go_seq_k fun K68 hK68 => ?_
     refine go_seq_k fun K69 hK69 => ?_
     refine go_region ?_
     refine go_pvs 0 2 [1, 3, 6, 79, 80] hs (L' := [(1, .pointer (some (⟨g2, 0, none⟩ : Addr))), (3, .int .i64 (a0.Words.length : Int)), (6, .int .i64 v67), (79, .int .i64 v67), (80, .pointer (some (((⟨g2, 0, none⟩ : Addr) : Addr).add 2)))]) (by kernel_rfl) ?_ rfl
     clear hs; intro a hs
     refine go_run hs (op := (Op.load 24 (Operand.tmp 80))) (ty := 24) (dst := some 81) (g := none) (by kernel_rfl) (by kernel_rfl) (by kernel_rfl) (x_bld (g := g2) (o := 2) (p := ((⟨g2, 0, none⟩ : Addr) : Addr).add 2) (v := .slice A0_3 a0.Syms.length c0_3) (hw.up 0) (by kernel_rfl) rfl (by kernel_rfl) (by kernel_rfl)) [1, 3, 6, 79, 81] (L' := [(1, .pointer (some (⟨g2, 0, none⟩ : Addr))), (3, .int .i64 (a0.Words.length : Int)), (6, .int .i64 v67), (79, .int .i64 v67), (81, .slice A0_3 a0.Syms.length c0_3)]) (by kernel_rfl) ?_
     clear hs; intro a hs
     refine go_pvs 3 5 [1, 3, 6, 83] hs (L' := [(1, .pointer (some (⟨g2, 0, none⟩ : Addr))), (3, .int .i64 (a0.Words.length : Int)), (6, .int .i64 v67), (83, .bool (decide (v67 < (a0.Syms.length : Int))))]) (by kernel_rfl) ?_ rfl
     clear hs; intro a hs
     refine go_end (by kernel_rfl) ?_
     refine hK69 _ _ ?_
     refine go_cond hs (decide (v67 < (a0.Syms.length : Int))) (by kernel_rfl) (fun hc => ?_) (fun hc => ?_)
     ·replace H := ite_t H (of_decide_eq_true hc)
      have hb70 := hc
      rw [hb70] at hs
      refine wp_skip ?_
      refine hK68 _ _ ?_
      refine go_seq_k fun K71 hK71 => ?_
      have hJ8 : ∀ (a : Act) (w : World), Slots a 105 [(1, .pointer (some (⟨g2, 0, none⟩ : Addr))), (3, .int .i64 (a0.Words.length : Int)), (6, .int .i64 v67)] → St [] w0 w [box g2 26 [.slice A0_1 a0.Words.length c0_1, .slice A0_2 a0.Sites.length c0_2, .slice A0_3 a0.Syms.length c0_3]] → rivetref09_May.j8 v67 = some o → K71 a w := by
       intro a w hs hw H
       unfold rivetref09_May.j8 at H
       refine hK71 _ _ ?_
       refine go_region ?_
       refine go_pvs 0 3 [1, 3, 6] hs (L' := [(1, .pointer (some (⟨g2, 0, none⟩ : Addr))), (3, .int .i64 (a0.Words.length : Int)), (6, .int .i64 (w64 (v67 + 1)))]) (by kernel_rfl) ?_ rfl
       clear hs; intro a hs
       refine go_end (by kernel_rfl) ?_
       replace hw := hw.only 1
       exact round_end (w64 (v67 + 1)) (Option.some.inj H).symm ⟨hs.keep [1, 3, 6] (by kernel_rfl), hw⟩
      refine wp_block ?_
      refine go_seq_k fun K72 hK72 => ?_
      refine go_region ?_
      refine go_pvs 0 1 [1, 3, 6, 86] hs (L' := [(1, .pointer (some (⟨g2, 0, none⟩ : Addr))), (3, .int .i64 (a0.Words.length : Int)), (6, .int .i64 v67), (86, .pointer (some (((⟨g2, 0, none⟩ : Addr) : Addr).add 2)))]) (by kernel_rfl) ?_ rfl
      clear hs; intro a hs
      refine go_run hs (op := (Op.load 24 (Operand.tmp 86))) (ty := 24) (dst := some 87) (g := none) (by kernel_rfl) (by kernel_rfl) (by kernel_rfl) (x_bld (g := g2) (o := 2) (p := ((⟨g2, 0, none⟩ : Addr) : Addr).add 2) (v := .slice A0_3 a0.Syms.length c0_3) (hw.up 0) (by kernel_rfl) rfl (by kernel_rfl) (by kernel_rfl)) [1, 3, 6, 87] (L' := [(1, .pointer (some (⟨g2, 0, none⟩ : Addr))), (3, .int .i64 (a0.Words.length : Int)), (6, .int .i64 v67), (87, .slice A0_3 a0.Syms.length c0_3)]) (by kernel_rfl) ?_
      clear hs; intro a hs
      refine go_pvs 2 3 [1, 3, 6, 87, 88] hs (L' := [(1, .pointer (some (⟨g2, 0, none⟩ : Addr))), (3, .int .i64 (a0.Words.length : Int)), (6, .int .i64 v67), (87, .slice A0_3 a0.Syms.length c0_3), (88, .int .i64 v67)]) (by kernel_rfl) ?_ rfl
      clear hs; intro a hs
      obtain ⟨hp73, H⟩ := ite_only H
      obtain ⟨ad74, rfl⟩ := (hr0_3.old hw).some hp73.1 hp73.2
      refine go_run hs (op := (Op.indexAddr 24 (Operand.tmp 87) (Operand.tmp 88))) (ty := 0) (dst := some 89) (g := none) (by kernel_rfl) (by kernel_rfl) (by kernel_rfl) (x_idx (T := 39) (sz := 2) (a := ad74) (n := a0.Syms.length) (cap := c0_3) (k := .i64) (i := v67) (by kernel_rfl) (by kernel_rfl) (by kernel_rfl) (by kernel_rfl) hp73.1 hp73.2) [1, 3, 6, 89] (L' := [(1, .pointer (some (⟨g2, 0, none⟩ : Addr))), (3, .int .i64 (a0.Words.length : Int)), (6, .int .i64 v67), (89, .pointer (some (ad74.add (v67.toNat * 2))))]) (by kernel_rfl) ?_
      clear hs; intro a hs
      refine go_pvs 4 5 [1, 3, 6, 90] hs (L' := [(1, .pointer (some (⟨g2, 0, none⟩ : Addr))), (3, .int .i64 (a0.Words.length : Int)), (6, .int .i64 v67), (90, .pointer (some ((ad74.add (v67.toNat * 2) : Addr).add 1)))]) (by kernel_rfl) ?_ rfl
      clear hs; intro a hs
      refine go_run hs (op := (Op.load 3 (Operand.tmp 90))) (ty := 3) (dst := some 91) (g := none) (by kernel_rfl) (by kernel_rfl) (by kernel_rfl) (x_ld (E := eSapi_Sym) (off := 1) (p := (ad74.add (v67.toNat * 2) : Addr).add 1) (v := .int .i64 ((ix eSapi_Sym.d a0.Syms v67).At)) (hr0_3.old hw) hp73.1 hp73.2 (by kernel_rfl) (by simp only [add_add', Nat.add_assoc]; rfl) (by kernel_rfl) (by kernel_rfl)) [1, 3, 6, 91] (L' := [(1, .pointer (some (⟨g2, 0, none⟩ : Addr))), (3, .int .i64 (a0.Words.length : Int)), (6, .int .i64 v67), (91, .int .i64 ((ix eSapi_Sym.d a0.Syms v67).At))]) (by kernel_rfl) ?_
      clear hs; intro a hs
      refine go_pvs 6 7 [1, 3, 6, 7] hs (L' := [(1, .pointer (some (⟨g2, 0, none⟩ : Addr))), (3, .int .i64 (a0.Words.length : Int)), (6, .int .i64 v67), (7, .int .i64 ((ix eSapi_Sym.d a0.Syms v67).At))]) (by kernel_rfl) ?_ rfl
      clear hs; intro a hs
      obtain ⟨y75, hy75, H⟩ := nm_some H
      replace hs : Slots a 105 [(1, .pointer (some (⟨g2, 0, none⟩ : Addr))), (3, .int .i64 (a0.Words.length : Int)), (6, .int .i64 v67), (7, .int .i64 y75)] := by rw [hy75]; exact hs
      refine go_end (by kernel_rfl) ?_
      refine hK72 _ _ ?_
      refine go_seq_k fun K76 hK76 => ?_
      have hJ7 : ∀ (v79 : Bool) (a : Act) (w : World), Slots a 105 [(1, .pointer (some (⟨g2, 0, none⟩ : Addr))), (3, .int .i64 (a0.Words.length : Int)), (6, .int .i64 v67), (104, .bool v79)] → St [] w0 w [box g2 26 [.slice A0_1 a0.Words.length c0_1, .slice A0_2 a0.Sites.length c0_2, .slice (some ad74) a0.Syms.length c0_3]] → rivetref09_May.j7 v67 v79 = some o → K76 a w := by
       intro v79 a w hs hw H
       unfold rivetref09_May.j7 at H
       refine hK76 _ _ ?_
       refine go_cond hs v79 (by kernel_rfl) (fun hc => ?_) (fun hc => ?_)
       ·replace H := ite_t H hc
        have hb80 := hc
        rw [hb80] at hs
        refine go_seq_k fun K81 hK81 => ?_
        refine go_region ?_
        refine go_pvs 0 1 [2] hs (L' := [(2, .int .i64 8)]) (by kernel_rfl) ?_ rfl
        clear hs; intro a hs
        refine go_end (by kernel_rfl) ?_
        refine hK81 _ _ ?_
        refine wp_ret ?_
        refine ib_ret ?_
        refine th_ret ?_
        refine th_ret ?_
        refine ib_ret ?_
        refine th_ret ?_
        rw [← hr66 _ (Option.some.inj H).symm] at HX66
        replace H : some 8 = some r := HX66
        obtain rfl := Option.some.inj H
        refine ret1 (t := 2) (v := .int .i64 8) hs (by kernel_rfl) (by kernel_rfl) ?_
        exact ⟨rfl, hw.only 0⟩
       ·replace H := ite_f H (ff hc)
        have hb82 := hc
        rw [hb82] at hs
        refine wp_skip ?_
        refine ib_norm ?_
        replace hw := hw.only 1
        exact hJ8 _ _ (hs.keep [1, 3, 6] (by kernel_rfl)) hw H
      refine go_region ?_
      refine go_pvs 0 3 [1, 3, 6, 7, 94] hs (L' := [(1, .pointer (some (⟨g2, 0, none⟩ : Addr))), (3, .int .i64 (a0.Words.length : Int)), (6, .int .i64 v67), (7, .int .i64 y75), (94, .bool (decide (y75 < 0)))]) (by kernel_rfl) ?_ rfl
      clear hs; intro a hs
      cases hb77 : (decide (y75 < 0))
      ·replace H := ite_f H (of_decide_eq_false hb77)
       rw [hb77] at hs
       refine go_pvs 3 9 [1, 3, 6, 7, 100] hs (L' := [(1, .pointer (some (⟨g2, 0, none⟩ : Addr))), (3, .int .i64 (a0.Words.length : Int)), (6, .int .i64 v67), (7, .int .i64 y75), (100, .bool (decide (y75 > (w64 (4 * (a0.Words.length : Int))))))]) (by kernel_rfl) ?_ rfl
       clear hs; intro a hs
       cases hb78 : (decide (y75 > (w64 (4 * (a0.Words.length : Int)))))
       ·replace H := ite_f H (of_decide_eq_false hb78)
        rw [hb78] at hs
        refine go_pvs 9 13 [1, 3, 6, 104] hs (L' := [(1, .pointer (some (⟨g2, 0, none⟩ : Addr))), (3, .int .i64 (a0.Words.length : Int)), (6, .int .i64 v67), (104, .bool ((y75.tmod 4) != 0))]) (by kernel_rfl) ?_ rfl
        clear hs; intro a hs
        refine go_end (by kernel_rfl) ?_
        replace hw := hw.only 1
        exact hJ7 ((y75.tmod 4) != 0) _ _ (hs.keep [1, 3, 6, 104] (by kernel_rfl)) hw H
       ·replace H := ite_t H (of_decide_eq_true hb78)
        rw [hb78] at hs
        refine go_pvs 9 13 [1, 3, 6, 104] hs (L' := [(1, .pointer (some (⟨g2, 0, none⟩ : Addr))), (3, .int .i64 (a0.Words.length : Int)), (6, .int .i64 v67), (104, .bool true)]) (by kernel_rfl) ?_ rfl
        clear hs; intro a hs
        refine go_end (by kernel_rfl) ?_
        replace hw := hw.only 1
        exact hJ7 true _ _ (hs.keep [1, 3, 6, 104] (by kernel_rfl)) hw H
      ·replace H := ite_t H (of_decide_eq_true hb77)
       rw [hb77] at hs
       refine go_pvs 3 13 [1, 3, 6, 104] hs (L' := [(1, .pointer (some (⟨g2, 0, none⟩ : Addr))), (3, .int .i64 (a0.Words.length : Int)), (6, .int .i64 v67), (104, .bool true)]) (by kernel_rfl) ?_ rfl
       clear hs; intro a hs
       refine go_end (by kernel_rfl) ?_
       replace hw := hw.only 1
       exact hJ7 true _ _ (hs.keep [1, 3, 6, 104] (by kernel_rfl)) hw H
     ·replace H := ite_f H (of_decide_eq_false hc)
      have hb83 := hc
      rw [hb83] at hs
      refine wp_exit ?_
      refine th_exit ?_
      refine th_exit ?_
      refine in_block ?_
      replace hw := hw.only 1
      rw [← hr66 _ (Option.some.inj H).symm] at HX66
      exact hJ9 _ _ (hs.keep [] (by kernel_rfl)) hw HX66
    clear H
    refine go_loop (σ := Int) (fun σ a w => Slots a 105 [(1, .pointer (some (⟨g2, 0, none⟩ : Addr))), (3, .int .i64 (a0.Words.length : Int)), (5, .int .i64 σ)] ∧ St [] w0 w [box g2 26 [.slice A0_1 a0.Words.length c0_1, .slice A0_2 a0.Sites.length c0_2, .slice A0_3 a0.Syms.length c0_3]]) hl43 (by exact ⟨hs.keep [1, 3, 5] (by kernel_rfl), hw⟩) ?_
    rintro v44 a w ⟨hs, hw⟩ o H hr43
    replace hs : Slots a 105 [(1, .pointer (some (⟨g2, 0, none⟩ : Addr))), (3, .int .i64 (a0.Words.length : Int)), (5, .int .i64 v44)] := hs
    replace hw : St [] w0 w [box g2 26 [.slice A0_1 a0.Words.length c0_1, .slice A0_2 a0.Sites.length c0_2, .slice A0_3 a0.Syms.length c0_3]] := hw
    replace H : rivetref09_May.b43 a0 v44 = some o := H
    unfold rivetref09_May.b43 at H
    refine go_seq_k fun K45 hK45 => ?_
    refine go_seq_k fun K46 hK46 => ?_
    refine go_region ?_
    refine go_pvs 0 2 [1, 3, 5, 44, 45] hs (L' := [(1, .pointer (some (⟨g2, 0, none⟩ : Addr))), (3, .int .i64 (a0.Words.length : Int)), (5, .int .i64 v44), (44, .int .i64 v44), (45, .pointer (some (((⟨g2, 0, none⟩ : Addr) : Addr).add 2)))]) (by kernel_rfl) ?_ rfl
    clear hs; intro a hs
    refine go_run hs (op := (Op.load 24 (Operand.tmp 45))) (ty := 24) (dst := some 46) (g := none) (by kernel_rfl) (by kernel_rfl) (by kernel_rfl) (x_bld (g := g2) (o := 2) (p := ((⟨g2, 0, none⟩ : Addr) : Addr).add 2) (v := .slice A0_3 a0.Syms.length c0_3) (hw.up 0) (by kernel_rfl) rfl (by kernel_rfl) (by kernel_rfl)) [1, 3, 5, 44, 46] (L' := [(1, .pointer (some (⟨g2, 0, none⟩ : Addr))), (3, .int .i64 (a0.Words.length : Int)), (5, .int .i64 v44), (44, .int .i64 v44), (46, .slice A0_3 a0.Syms.length c0_3)]) (by kernel_rfl) ?_
    clear hs; intro a hs
    refine go_pvs 3 5 [1, 3, 5, 48] hs (L' := [(1, .pointer (some (⟨g2, 0, none⟩ : Addr))), (3, .int .i64 (a0.Words.length : Int)), (5, .int .i64 v44), (48, .bool (decide (v44 < (a0.Syms.length : Int))))]) (by kernel_rfl) ?_ rfl
    clear hs; intro a hs
    refine go_end (by kernel_rfl) ?_
    refine hK46 _ _ ?_
    refine go_cond hs (decide (v44 < (a0.Syms.length : Int))) (by kernel_rfl) (fun hc => ?_) (fun hc => ?_)
    ·replace H := ite_t H (of_decide_eq_true hc)
     have hb47 := hc
     rw [hb47] at hs
     refine wp_skip ?_
     refine hK45 _ _ ?_
     refine go_seq_k fun K48 hK48 => ?_
     have hJ5 : ∀ (a : Act) (w : World), Slots a 105 [(1, .pointer (some (⟨g2, 0, none⟩ : Addr))), (3, .int .i64 (a0.Words.length : Int)), (5, .int .i64 v44)] → St [] w0 w [box g2 26 [.slice A0_1 a0.Words.length c0_1, .slice A0_2 a0.Sites.length c0_2, .slice A0_3 a0.Syms.length c0_3]] → rivetref09_May.j5 v44 = some o → K48 a w := by
      intro a w hs hw H
      unfold rivetref09_May.j5 at H
      refine hK48 _ _ ?_
      refine go_region ?_
      refine go_pvs 0 3 [1, 3, 5] hs (L' := [(1, .pointer (some (⟨g2, 0, none⟩ : Addr))), (3, .int .i64 (a0.Words.length : Int)), (5, .int .i64 (w64 (v44 + 1)))]) (by kernel_rfl) ?_ rfl
      clear hs; intro a hs
      refine go_end (by kernel_rfl) ?_
      replace hw := hw.only 1
      exact round_end (w64 (v44 + 1)) (Option.some.inj H).symm ⟨hs.keep [1, 3, 5] (by kernel_rfl), hw⟩
     refine wp_block ?_
     refine go_seq_k fun K49 hK49 => ?_
     have hJ4 : ∀ (v59 : Bool) (a : Act) (w : World), Slots a 105 [(1, .pointer (some (⟨g2, 0, none⟩ : Addr))), (3, .int .i64 (a0.Words.length : Int)), (5, .int .i64 v44), (78, .bool v59)] → St [] w0 w [box g2 26 [.slice A0_1 a0.Words.length c0_1, .slice A0_2 a0.Sites.length c0_2, .slice A0_3 a0.Syms.length c0_3]] → rivetref09_May.j4 v44 v59 = some o → K49 a w := by
      intro v59 a w hs hw H
      unfold rivetref09_May.j4 at H
      refine hK49 _ _ ?_
      refine go_cond hs v59 (by kernel_rfl) (fun hc => ?_) (fun hc => ?_)
      ·replace H := ite_t H hc
       have hb60 := hc
       rw [hb60] at hs
       refine go_seq_k fun K61 hK61 => ?_
       refine go_region ?_
       refine go_pvs 0 1 [2] hs (L' := [(2, .int .i64 9)]) (by kernel_rfl) ?_ rfl
       clear hs; intro a hs
       refine go_end (by kernel_rfl) ?_
       refine hK61 _ _ ?_
       refine wp_ret ?_
       refine ib_ret ?_
       refine th_ret ?_
       refine th_ret ?_
       refine ib_ret ?_
       refine th_ret ?_
       rw [← hr43 _ (Option.some.inj H).symm] at HX43
       replace H : some 9 = some r := HX43
       obtain rfl := Option.some.inj H
       refine ret1 (t := 2) (v := .int .i64 9) hs (by kernel_rfl) (by kernel_rfl) ?_
       exact ⟨rfl, hw.only 0⟩
      ·replace H := ite_f H (ff hc)
       have hb62 := hc
       rw [hb62] at hs
       refine wp_skip ?_
       refine ib_norm ?_
       replace hw := hw.only 1
       exact hJ5 _ _ (hs.keep [1, 3, 5] (by kernel_rfl)) hw H
     refine q2_region (by kernel_rfl) (by kernel_rfl) ?_
     refine q_pvs 0 1 [1, 3, 5, 51] hs (L' := [(1, .pointer (some (⟨g2, 0, none⟩ : Addr))), (3, .int .i64 (a0.Words.length : Int)), (5, .int .i64 v44), (51, .pointer (some (((⟨g2, 0, none⟩ : Addr) : Addr).add 2)))]) (by kernel_rfl) ?_ rfl
     clear hs; intro a hs
     refine q_run hs (op := (Op.load 24 (Operand.tmp 51))) (ty := 24) (dst := some 52) (g := none) (by kernel_rfl) (by kernel_rfl) (by kernel_rfl) (fun wx hbx => (x_bld (g := g2) (o := 2) (p := ((⟨g2, 0, none⟩ : Addr) : Addr).add 2) (v := .slice A0_3 a0.Syms.length c0_3) ((hw.behind hbx).up 0) (by kernel_rfl) rfl (by kernel_rfl) (by kernel_rfl))) [1, 3, 5, 52] (L' := [(1, .pointer (some (⟨g2, 0, none⟩ : Addr))), (3, .int .i64 (a0.Words.length : Int)), (5, .int .i64 v44), (52, .slice A0_3 a0.Syms.length c0_3)]) (by kernel_rfl) ?_
     clear hs; intro a hs
     refine q_pvs 2 3 [1, 3, 5, 52, 53] hs (L' := [(1, .pointer (some (⟨g2, 0, none⟩ : Addr))), (3, .int .i64 (a0.Words.length : Int)), (5, .int .i64 v44), (52, .slice A0_3 a0.Syms.length c0_3), (53, .int .i64 v44)]) (by kernel_rfl) ?_ rfl
     clear hs; intro a hs
     obtain ⟨hp50, H⟩ := ite_only H
     obtain ⟨ad51, rfl⟩ := (hr0_3.old hw).some hp50.1 hp50.2
     refine q_run hs (op := (Op.indexAddr 24 (Operand.tmp 52) (Operand.tmp 53))) (ty := 0) (dst := some 54) (g := none) (by kernel_rfl) (by kernel_rfl) (by kernel_rfl) (fun wx hbx => (x_idx (T := 39) (sz := 2) (a := ad51) (n := a0.Syms.length) (cap := c0_3) (k := .i64) (i := v44) (by kernel_rfl) (by kernel_rfl) (by kernel_rfl) (by kernel_rfl) hp50.1 hp50.2)) [1, 3, 5, 54] (L' := [(1, .pointer (some (⟨g2, 0, none⟩ : Addr))), (3, .int .i64 (a0.Words.length : Int)), (5, .int .i64 v44), (54, .pointer (some (ad51.add (v44.toNat * 2))))]) (by kernel_rfl) ?_
     clear hs; intro a hs
     refine q_pvs 4 5 [1, 3, 5, 55] hs (L' := [(1, .pointer (some (⟨g2, 0, none⟩ : Addr))), (3, .int .i64 (a0.Words.length : Int)), (5, .int .i64 v44), (55, .pointer (some ((ad51.add (v44.toNat * 2) : Addr).add 0)))]) (by kernel_rfl) ?_ rfl
     clear hs; intro a hs
     refine q_run hs (op := (Op.load 9 (Operand.tmp 55))) (ty := 9) (dst := some 56) (g := none) (by kernel_rfl) (by kernel_rfl) (by kernel_rfl) (fun wx hbx => (x_ld (E := eSapi_Sym) (off := 0) (p := (ad51.add (v44.toNat * 2) : Addr).add 0) (v := .string ((ix eSapi_Sym.d a0.Syms v44).Name)) ((hr0_3.old hw).below hbx) hp50.1 hp50.2 (by kernel_rfl) (by simp only [add_add', Nat.add_assoc]; rfl) (by kernel_rfl) (by kernel_rfl))) [1, 3, 5, 56] (L' := [(1, .pointer (some (⟨g2, 0, none⟩ : Addr))), (3, .int .i64 (a0.Words.length : Int)), (5, .int .i64 v44), (56, .string ((ix eSapi_Sym.d a0.Syms v44).Name))]) (by kernel_rfl) ?_
     clear hs; intro a hs
     obtain ⟨t53, hx54, H⟩ := bind_some H
     refine q_call hs (op := (Op.call { callee := (Callee.value (Operand.func 37)), args := #[(Operand.tmp 56)], argTypes := #[9] })) (ty := 4) (dst := some 57) (g := none) (by kernel_rfl) (by kernel_rfl) (by kernel_rfl) (f := 37) (args := #[.string ((ix eSapi_Sym.d a0.Syms v44).Name)]) (v := .bool t53) (by kernel_rfl) (fun wx hbx => (rivetref07_Name.calls ((ix eSapi_Sym.d a0.Syms v44).Name) t53 _ hx54).mono ?_) [1, 3, 5, 57] (L' := [(1, .pointer (some (⟨g2, 0, none⟩ : Addr))), (3, .int .i64 (a0.Words.length : Int)), (5, .int .i64 v44), (57, .bool t53)]) (by kernel_rfl) ?_
     · rintro e wy ⟨rfl, hwy⟩
       exact ⟨rfl, below_st hbx hwy⟩
     clear hs; intro a hs
     refine q_pvs 7 9 [1, 3, 5, 59] hs (L' := [(1, .pointer (some (⟨g2, 0, none⟩ : Addr))), (3, .int .i64 (a0.Words.length : Int)), (5, .int .i64 v44), (59, .bool (!t53))]) (by kernel_rfl) ?_ rfl
     clear hs; intro a hs
     cases hb55 : (!t53)
     ·replace H := ite_t H (nf hb55)
      rw [hb55] at hs
      refine q_pvs 9 12 [1, 3, 5, 59, 62] hs (L' := [(1, .pointer (some (⟨g2, 0, none⟩ : Addr))), (3, .int .i64 (a0.Words.length : Int)), (5, .int .i64 v44), (59, .bool false), (62, .bool (decide (v44 > 0)))]) (by kernel_rfl) ?_ rfl
      clear hs; intro a hs
      cases hb56 : (decide (v44 > 0))
      ·replace H := ite_f H (of_decide_eq_false hb56)
       rw [hb56] at hs
       refine q_pvs 12 28 [1, 3, 5, 78] hs (L' := [(1, .pointer (some (⟨g2, 0, none⟩ : Addr))), (3, .int .i64 (a0.Words.length : Int)), (5, .int .i64 v44), (78, .bool false)]) (by kernel_rfl) ?_ rfl
       clear hs; intro a hs
       refine q_end (by kernel_rfl) ?_
       intro wq hbq
       replace hw := hw.behind hbq
       replace hw := hw.only 1
       exact hJ4 false _ _ (hs.keep [1, 3, 5, 78] (by kernel_rfl)) hw H
      ·replace H := ite_t H (of_decide_eq_true hb56)
       rw [hb56] at hs
       refine q_pvs 12 13 [1, 3, 5, 59, 62, 63] hs (L' := [(1, .pointer (some (⟨g2, 0, none⟩ : Addr))), (3, .int .i64 (a0.Words.length : Int)), (5, .int .i64 v44), (59, .bool false), (62, .bool true), (63, .pointer (some (((⟨g2, 0, none⟩ : Addr) : Addr).add 2)))]) (by kernel_rfl) ?_ rfl
       clear hs; intro a hs
       refine q_run hs (op := (Op.load 24 (Operand.tmp 63))) (ty := 24) (dst := some 64) (g := some (11, true)) (by kernel_rfl) (by kernel_rfl) (by kernel_rfl) (fun wx hbx => (x_bld (g := g2) (o := 2) (p := ((⟨g2, 0, none⟩ : Addr) : Addr).add 2) (v := .slice (some ad51) a0.Syms.length c0_3) ((hw.behind hbx).up 0) (by kernel_rfl) rfl (by kernel_rfl) (by kernel_rfl))) [1, 3, 5, 59, 62, 64] (L' := [(1, .pointer (some (⟨g2, 0, none⟩ : Addr))), (3, .int .i64 (a0.Words.length : Int)), (5, .int .i64 v44), (59, .bool false), (62, .bool true), (64, .slice (some ad51) a0.Syms.length c0_3)]) (by kernel_rfl) ?_
       clear hs; intro a hs
       refine q_pvs 14 15 [1, 3, 5, 59, 62, 64, 65] hs (L' := [(1, .pointer (some (⟨g2, 0, none⟩ : Addr))), (3, .int .i64 (a0.Words.length : Int)), (5, .int .i64 v44), (59, .bool false), (62, .bool true), (64, .slice (some ad51) a0.Syms.length c0_3), (65, .int .i64 v44)]) (by kernel_rfl) ?_ rfl
       clear hs; intro a hs
       obtain ⟨hp57, H⟩ := ite_only H
       refine q_run hs (op := (Op.indexAddr 24 (Operand.tmp 64) (Operand.tmp 65))) (ty := 0) (dst := some 66) (g := some (11, true)) (by kernel_rfl) (by kernel_rfl) (by kernel_rfl) (fun wx hbx => (x_idx (T := 39) (sz := 2) (a := ad51) (n := a0.Syms.length) (cap := c0_3) (k := .i64) (i := v44) (by kernel_rfl) (by kernel_rfl) (by kernel_rfl) (by kernel_rfl) hp57.1 hp57.2)) [1, 3, 5, 59, 62, 66] (L' := [(1, .pointer (some (⟨g2, 0, none⟩ : Addr))), (3, .int .i64 (a0.Words.length : Int)), (5, .int .i64 v44), (59, .bool false), (62, .bool true), (66, .pointer (some (ad51.add (v44.toNat * 2))))]) (by kernel_rfl) ?_
       clear hs; intro a hs
       refine q_pvs 16 17 [1, 3, 5, 59, 62, 67] hs (L' := [(1, .pointer (some (⟨g2, 0, none⟩ : Addr))), (3, .int .i64 (a0.Words.length : Int)), (5, .int .i64 v44), (59, .bool false), (62, .bool true), (67, .pointer (some ((ad51.add (v44.toNat * 2) : Addr).add 0)))]) (by kernel_rfl) ?_ rfl
       clear hs; intro a hs
       refine q_run hs (op := (Op.load 9 (Operand.tmp 67))) (ty := 9) (dst := some 68) (g := some (11, true)) (by kernel_rfl) (by kernel_rfl) (by kernel_rfl) (fun wx hbx => (x_ld (E := eSapi_Sym) (off := 0) (p := (ad51.add (v44.toNat * 2) : Addr).add 0) (v := .string ((ix eSapi_Sym.d a0.Syms v44).Name)) ((hr0_3.old hw).below hbx) hp57.1 hp57.2 (by kernel_rfl) (by simp only [add_add', Nat.add_assoc]; rfl) (by kernel_rfl) (by kernel_rfl))) [1, 3, 5, 59, 62, 68] (L' := [(1, .pointer (some (⟨g2, 0, none⟩ : Addr))), (3, .int .i64 (a0.Words.length : Int)), (5, .int .i64 v44), (59, .bool false), (62, .bool true), (68, .string ((ix eSapi_Sym.d a0.Syms v44).Name))]) (by kernel_rfl) ?_
       clear hs; intro a hs
       refine q_pvs 18 19 [1, 3, 5, 59, 62, 68, 69] hs (L' := [(1, .pointer (some (⟨g2, 0, none⟩ : Addr))), (3, .int .i64 (a0.Words.length : Int)), (5, .int .i64 v44), (59, .bool false), (62, .bool true), (68, .string ((ix eSapi_Sym.d a0.Syms v44).Name)), (69, .pointer (some (((⟨g2, 0, none⟩ : Addr) : Addr).add 2)))]) (by kernel_rfl) ?_ rfl
       clear hs; intro a hs
       refine q_run hs (op := (Op.load 24 (Operand.tmp 69))) (ty := 24) (dst := some 70) (g := some (11, true)) (by kernel_rfl) (by kernel_rfl) (by kernel_rfl) (fun wx hbx => (x_bld (g := g2) (o := 2) (p := ((⟨g2, 0, none⟩ : Addr) : Addr).add 2) (v := .slice (some ad51) a0.Syms.length c0_3) ((hw.behind hbx).up 0) (by kernel_rfl) rfl (by kernel_rfl) (by kernel_rfl))) [1, 3, 5, 59, 62, 68, 70] (L' := [(1, .pointer (some (⟨g2, 0, none⟩ : Addr))), (3, .int .i64 (a0.Words.length : Int)), (5, .int .i64 v44), (59, .bool false), (62, .bool true), (68, .string ((ix eSapi_Sym.d a0.Syms v44).Name)), (70, .slice (some ad51) a0.Syms.length c0_3)]) (by kernel_rfl) ?_
       clear hs; intro a hs
       refine q_pvs 20 22 [1, 3, 5, 59, 62, 68, 70, 72] hs (L' := [(1, .pointer (some (⟨g2, 0, none⟩ : Addr))), (3, .int .i64 (a0.Words.length : Int)), (5, .int .i64 v44), (59, .bool false), (62, .bool true), (68, .string ((ix eSapi_Sym.d a0.Syms v44).Name)), (70, .slice (some ad51) a0.Syms.length c0_3), (72, .int .i64 (w64 (v44 - 1)))]) (by kernel_rfl) ?_ rfl
       clear hs; intro a hs
       obtain ⟨hp58, H⟩ := ite_only H
       refine q_run hs (op := (Op.indexAddr 24 (Operand.tmp 70) (Operand.tmp 72))) (ty := 0) (dst := some 73) (g := some (11, true)) (by kernel_rfl) (by kernel_rfl) (by kernel_rfl) (fun wx hbx => (x_idx (T := 39) (sz := 2) (a := ad51) (n := a0.Syms.length) (cap := c0_3) (k := .i64) (i := (w64 (v44 - 1))) (by kernel_rfl) (by kernel_rfl) (by kernel_rfl) (by kernel_rfl) hp58.1 hp58.2)) [1, 3, 5, 59, 62, 68, 73] (L' := [(1, .pointer (some (⟨g2, 0, none⟩ : Addr))), (3, .int .i64 (a0.Words.length : Int)), (5, .int .i64 v44), (59, .bool false), (62, .bool true), (68, .string ((ix eSapi_Sym.d a0.Syms v44).Name)), (73, .pointer (some (ad51.add ((w64 (v44 - 1)).toNat * 2))))]) (by kernel_rfl) ?_
       clear hs; intro a hs
       refine q_pvs 23 24 [1, 3, 5, 59, 62, 68, 74] hs (L' := [(1, .pointer (some (⟨g2, 0, none⟩ : Addr))), (3, .int .i64 (a0.Words.length : Int)), (5, .int .i64 v44), (59, .bool false), (62, .bool true), (68, .string ((ix eSapi_Sym.d a0.Syms v44).Name)), (74, .pointer (some ((ad51.add ((w64 (v44 - 1)).toNat * 2) : Addr).add 0)))]) (by kernel_rfl) ?_ rfl
       clear hs; intro a hs
       refine q_run hs (op := (Op.load 9 (Operand.tmp 74))) (ty := 9) (dst := some 75) (g := some (11, true)) (by kernel_rfl) (by kernel_rfl) (by kernel_rfl) (fun wx hbx => (x_ld (E := eSapi_Sym) (off := 0) (p := (ad51.add ((w64 (v44 - 1)).toNat * 2) : Addr).add 0) (v := .string ((ix eSapi_Sym.d a0.Syms (w64 (v44 - 1))).Name)) ((hr0_3.old hw).below hbx) hp58.1 hp58.2 (by kernel_rfl) (by simp only [add_add', Nat.add_assoc]; rfl) (by kernel_rfl) (by kernel_rfl))) [1, 3, 5, 59, 62, 68, 75] (L' := [(1, .pointer (some (⟨g2, 0, none⟩ : Addr))), (3, .int .i64 (a0.Words.length : Int)), (5, .int .i64 v44), (59, .bool false), (62, .bool true), (68, .string ((ix eSapi_Sym.d a0.Syms v44).Name)), (75, .string ((ix eSapi_Sym.d a0.Syms (w64 (v44 - 1))).Name))]) (by kernel_rfl) ?_
       clear hs; intro a hs
       refine q_pvs 25 28 [1, 3, 5, 78] hs (L' := [(1, .pointer (some (⟨g2, 0, none⟩ : Addr))), (3, .int .i64 (a0.Words.length : Int)), (5, .int .i64 v44), (78, .bool (Op.bytesLess ((ix eSapi_Sym.d a0.Syms v44).Name).toList ((ix eSapi_Sym.d a0.Syms (w64 (v44 - 1))).Name).toList || ((ix eSapi_Sym.d a0.Syms v44).Name).toList == ((ix eSapi_Sym.d a0.Syms (w64 (v44 - 1))).Name).toList))]) (by kernel_rfl) ?_ rfl
       clear hs; intro a hs
       refine q_end (by kernel_rfl) ?_
       intro wq hbq
       replace hw := hw.behind hbq
       replace hw := hw.only 1
       exact hJ4 (Op.bytesLess ((ix eSapi_Sym.d a0.Syms v44).Name).toList ((ix eSapi_Sym.d a0.Syms (w64 (v44 - 1))).Name).toList || ((ix eSapi_Sym.d a0.Syms v44).Name).toList == ((ix eSapi_Sym.d a0.Syms (w64 (v44 - 1))).Name).toList) _ _ (hs.keep [1, 3, 5, 78] (by kernel_rfl)) hw H
     ·replace H := ite_f H (ff (nt hb55))
      rw [hb55] at hs
      refine q_pvs 9 28 [1, 3, 5, 78] hs (L' := [(1, .pointer (some (⟨g2, 0, none⟩ : Addr))), (3, .int .i64 (a0.Words.length : Int)), (5, .int .i64 v44), (78, .bool true)]) (by kernel_rfl) ?_ rfl
      clear hs; intro a hs
      refine q_end (by kernel_rfl) ?_
      intro wq hbq
      replace hw := hw.behind hbq
      replace hw := hw.only 1
      exact hJ4 true _ _ (hs.keep [1, 3, 5, 78] (by kernel_rfl)) hw H
    ·replace H := ite_f H (of_decide_eq_false hc)
     have hb63 := hc
     rw [hb63] at hs
     refine wp_exit ?_
     refine th_exit ?_
     refine th_exit ?_
     refine in_block ?_
     replace hw := hw.only 1
     rw [← hr43 _ (Option.some.inj H).symm] at HX43
     exact hJ6 _ _ (hs.keep [1, 3] (by kernel_rfl)) hw HX43
   clear H
   refine go_loop (σ := Int) (fun σ a w => Slots a 105 [(1, .pointer (some (⟨g2, 0, none⟩ : Addr))), (3, .int .i64 (a0.Words.length : Int)), (4, .int .i64 σ)] ∧ St [] w0 w [box g2 26 [.slice A0_1 a0.Words.length c0_1, .slice A0_2 a0.Sites.length c0_2, .slice A0_3 a0.Syms.length c0_3]]) hl26 (by exact ⟨hs.keep [1, 3, 4] (by kernel_rfl), hw⟩) ?_
   rintro v27 a w ⟨hs, hw⟩ o H hr26
   replace hs : Slots a 105 [(1, .pointer (some (⟨g2, 0, none⟩ : Addr))), (3, .int .i64 (a0.Words.length : Int)), (4, .int .i64 v27)] := hs
   replace hw : St [] w0 w [box g2 26 [.slice A0_1 a0.Words.length c0_1, .slice A0_2 a0.Sites.length c0_2, .slice A0_3 a0.Syms.length c0_3]] := hw
   replace H : rivetref09_May.b26 a0 v27 = some o := H
   unfold rivetref09_May.b26 at H
   refine go_seq_k fun K28 hK28 => ?_
   refine go_seq_k fun K29 hK29 => ?_
   refine go_region ?_
   refine go_pvs 0 2 [1, 3, 4, 24, 25] hs (L' := [(1, .pointer (some (⟨g2, 0, none⟩ : Addr))), (3, .int .i64 (a0.Words.length : Int)), (4, .int .i64 v27), (24, .int .i64 v27), (25, .pointer (some (((⟨g2, 0, none⟩ : Addr) : Addr).add 1)))]) (by kernel_rfl) ?_ rfl
   clear hs; intro a hs
   refine go_run hs (op := (Op.load 23 (Operand.tmp 25))) (ty := 23) (dst := some 26) (g := none) (by kernel_rfl) (by kernel_rfl) (by kernel_rfl) (x_bld (g := g2) (o := 1) (p := ((⟨g2, 0, none⟩ : Addr) : Addr).add 1) (v := .slice A0_2 a0.Sites.length c0_2) (hw.up 0) (by kernel_rfl) rfl (by kernel_rfl) (by kernel_rfl)) [1, 3, 4, 24, 26] (L' := [(1, .pointer (some (⟨g2, 0, none⟩ : Addr))), (3, .int .i64 (a0.Words.length : Int)), (4, .int .i64 v27), (24, .int .i64 v27), (26, .slice A0_2 a0.Sites.length c0_2)]) (by kernel_rfl) ?_
   clear hs; intro a hs
   refine go_pvs 3 5 [1, 3, 4, 28] hs (L' := [(1, .pointer (some (⟨g2, 0, none⟩ : Addr))), (3, .int .i64 (a0.Words.length : Int)), (4, .int .i64 v27), (28, .bool (decide (v27 < (a0.Sites.length : Int))))]) (by kernel_rfl) ?_ rfl
   clear hs; intro a hs
   refine go_end (by kernel_rfl) ?_
   refine hK29 _ _ ?_
   refine go_cond hs (decide (v27 < (a0.Sites.length : Int))) (by kernel_rfl) (fun hc => ?_) (fun hc => ?_)
   ·replace H := ite_t H (of_decide_eq_true hc)
    have hb30 := hc
    rw [hb30] at hs
    refine wp_skip ?_
    refine hK28 _ _ ?_
    refine go_seq_k fun K31 hK31 => ?_
    refine wp_block ?_
    refine go_seq_k fun K32 hK32 => ?_
    refine q2_region (by kernel_rfl) (by kernel_rfl) ?_
    refine q_pvs 0 1 [1, 3, 4, 31] hs (L' := [(1, .pointer (some (⟨g2, 0, none⟩ : Addr))), (3, .int .i64 (a0.Words.length : Int)), (4, .int .i64 v27), (31, .pointer (some (((⟨g2, 0, none⟩ : Addr) : Addr).add 0)))]) (by kernel_rfl) ?_ rfl
    clear hs; intro a hs
    refine q_run hs (op := (Op.load 22 (Operand.tmp 31))) (ty := 22) (dst := some 32) (g := none) (by kernel_rfl) (by kernel_rfl) (by kernel_rfl) (fun wx hbx => (x_bld (g := g2) (o := 0) (p := ((⟨g2, 0, none⟩ : Addr) : Addr).add 0) (v := .slice A0_1 a0.Words.length c0_1) ((hw.behind hbx).up 0) (by kernel_rfl) rfl (by kernel_rfl) (by kernel_rfl))) [1, 3, 4, 32] (L' := [(1, .pointer (some (⟨g2, 0, none⟩ : Addr))), (3, .int .i64 (a0.Words.length : Int)), (4, .int .i64 v27), (32, .slice A0_1 a0.Words.length c0_1)]) (by kernel_rfl) ?_
    clear hs; intro a hs
    refine q_pvs 2 3 [1, 3, 4, 32, 33] hs (L' := [(1, .pointer (some (⟨g2, 0, none⟩ : Addr))), (3, .int .i64 (a0.Words.length : Int)), (4, .int .i64 v27), (32, .slice A0_1 a0.Words.length c0_1), (33, .pointer (some (((⟨g2, 0, none⟩ : Addr) : Addr).add 1)))]) (by kernel_rfl) ?_ rfl
    clear hs; intro a hs
    refine q_run hs (op := (Op.load 23 (Operand.tmp 33))) (ty := 23) (dst := some 34) (g := none) (by kernel_rfl) (by kernel_rfl) (by kernel_rfl) (fun wx hbx => (x_bld (g := g2) (o := 1) (p := ((⟨g2, 0, none⟩ : Addr) : Addr).add 1) (v := .slice A0_2 a0.Sites.length c0_2) ((hw.behind hbx).up 0) (by kernel_rfl) rfl (by kernel_rfl) (by kernel_rfl))) [1, 3, 4, 32, 34] (L' := [(1, .pointer (some (⟨g2, 0, none⟩ : Addr))), (3, .int .i64 (a0.Words.length : Int)), (4, .int .i64 v27), (32, .slice A0_1 a0.Words.length c0_1), (34, .slice A0_2 a0.Sites.length c0_2)]) (by kernel_rfl) ?_
    clear hs; intro a hs
    refine q_pvs 4 5 [1, 3, 4, 32, 34, 35] hs (L' := [(1, .pointer (some (⟨g2, 0, none⟩ : Addr))), (3, .int .i64 (a0.Words.length : Int)), (4, .int .i64 v27), (32, .slice A0_1 a0.Words.length c0_1), (34, .slice A0_2 a0.Sites.length c0_2), (35, .int .i64 v27)]) (by kernel_rfl) ?_ rfl
    clear hs; intro a hs
    obtain ⟨hp33, H⟩ := ite_only H
    obtain ⟨ad34, rfl⟩ := (hr0_2.old hw).some hp33.1 hp33.2
    refine q_run hs (op := (Op.indexAddr 23 (Operand.tmp 34) (Operand.tmp 35))) (ty := 0) (dst := some 36) (g := none) (by kernel_rfl) (by kernel_rfl) (by kernel_rfl) (fun wx hbx => (x_idx (T := 3) (sz := 1) (a := ad34) (n := a0.Sites.length) (cap := c0_2) (k := .i64) (i := v27) (by kernel_rfl) (by kernel_rfl) (by kernel_rfl) (by kernel_rfl) hp33.1 hp33.2)) [1, 3, 4, 32, 36] (L' := [(1, .pointer (some (⟨g2, 0, none⟩ : Addr))), (3, .int .i64 (a0.Words.length : Int)), (4, .int .i64 v27), (32, .slice A0_1 a0.Words.length c0_1), (36, .pointer (some (ad34.add (v27.toNat * 1))))]) (by kernel_rfl) ?_
    clear hs; intro a hs
    refine q_run hs (op := (Op.load 3 (Operand.tmp 36))) (ty := 3) (dst := some 37) (g := none) (by kernel_rfl) (by kernel_rfl) (by kernel_rfl) (fun wx hbx => (x_ld (E := (eI .i64)) (off := 0) (p := ad34.add (v27.toNat * 1)) (v := .int .i64 (ix (eI .i64).d a0.Sites v27)) ((hr0_2.old hw).below hbx) hp33.1 hp33.2 (by kernel_rfl) rfl (by kernel_rfl) (by kernel_rfl))) [1, 3, 4, 32, 37] (L' := [(1, .pointer (some (⟨g2, 0, none⟩ : Addr))), (3, .int .i64 (a0.Words.length : Int)), (4, .int .i64 v27), (32, .slice A0_1 a0.Words.length c0_1), (37, .int .i64 (ix (eI .i64).d a0.Sites v27))]) (by kernel_rfl) ?_
    clear hs; intro a hs
    obtain ⟨hp35, H⟩ := ite_only H
    obtain ⟨ad36, rfl⟩ := (hr0_1.old hw).some hp35.1 hp35.2
    refine q_run hs (op := (Op.indexAddr 22 (Operand.tmp 32) (Operand.tmp 37))) (ty := 0) (dst := some 38) (g := none) (by kernel_rfl) (by kernel_rfl) (by kernel_rfl) (fun wx hbx => (x_idx (T := 37) (sz := 1) (a := ad36) (n := a0.Words.length) (cap := c0_1) (k := .i64) (i := (ix (eI .i64).d a0.Sites v27)) (by kernel_rfl) (by kernel_rfl) (by kernel_rfl) (by kernel_rfl) hp35.1 hp35.2)) [1, 3, 4, 38] (L' := [(1, .pointer (some (⟨g2, 0, none⟩ : Addr))), (3, .int .i64 (a0.Words.length : Int)), (4, .int .i64 v27), (38, .pointer (some (ad36.add ((ix (eI .i64).d a0.Sites v27).toNat * 1))))]) (by kernel_rfl) ?_
    clear hs; intro a hs
    refine q_run hs (op := (Op.load 37 (Operand.tmp 38))) (ty := 37) (dst := some 39) (g := none) (by kernel_rfl) (by kernel_rfl) (by kernel_rfl) (fun wx hbx => (x_ld (E := (eI .u32)) (off := 0) (p := ad36.add ((ix (eI .i64).d a0.Sites v27).toNat * 1)) (v := .int .u32 (ix (eI .u32).d a0.Words (ix (eI .i64).d a0.Sites v27))) ((hr0_1.old hw).below hbx) hp35.1 hp35.2 (by kernel_rfl) rfl (by kernel_rfl) (by kernel_rfl))) [1, 3, 4, 39] (L' := [(1, .pointer (some (⟨g2, 0, none⟩ : Addr))), (3, .int .i64 (a0.Words.length : Int)), (4, .int .i64 v27), (39, .int .u32 (ix (eI .u32).d a0.Words (ix (eI .i64).d a0.Sites v27)))]) (by kernel_rfl) ?_
    clear hs; intro a hs
    refine q_pvs 9 13 [1, 3, 4, 43] hs (L' := [(1, .pointer (some (⟨g2, 0, none⟩ : Addr))), (3, .int .i64 (a0.Words.length : Int)), (4, .int .i64 v27), (43, .bool (decide ((w64 (ix (eI .u32).d a0.Words (ix (eI .i64).d a0.Sites v27))) > (w64 (4 * (a0.Words.length : Int))))))]) (by kernel_rfl) ?_ rfl
    clear hs; intro a hs
    refine q_end (by kernel_rfl) ?_
    intro wq hbq
    replace hw := hw.behind hbq
    refine hK32 _ _ ?_
    refine go_cond hs (decide ((w64 (ix (eI .u32).d a0.Words (ix (eI .i64).d a0.Sites v27))) > (w64 (4 * (a0.Words.length : Int))))) (by kernel_rfl) (fun hc => ?_) (fun hc => ?_)
    ·replace H := ite_t H (of_decide_eq_true hc)
     have hb37 := hc
     rw [hb37] at hs
     refine go_seq_k fun K38 hK38 => ?_
     refine go_region ?_
     refine go_pvs 0 1 [2] hs (L' := [(2, .int .i64 8)]) (by kernel_rfl) ?_ rfl
     clear hs; intro a hs
     refine go_end (by kernel_rfl) ?_
     refine hK38 _ _ ?_
     refine wp_ret ?_
     refine ib_ret ?_
     refine th_ret ?_
     refine th_ret ?_
     refine ib_ret ?_
     refine th_ret ?_
     rw [← hr26 _ (Option.some.inj H).symm] at HX26
     replace H : some 8 = some r := HX26
     obtain rfl := Option.some.inj H
     refine ret1 (t := 2) (v := .int .i64 8) hs (by kernel_rfl) (by kernel_rfl) ?_
     exact ⟨rfl, hw.only 0⟩
    ·replace H := ite_f H (of_decide_eq_false hc)
     have hb39 := hc
     rw [hb39] at hs
     refine wp_skip ?_
     refine ib_norm ?_
     refine hK31 _ _ ?_
     refine go_region ?_
     refine go_pvs 0 3 [1, 3, 4] hs (L' := [(1, .pointer (some (⟨g2, 0, none⟩ : Addr))), (3, .int .i64 (a0.Words.length : Int)), (4, .int .i64 (w64 (v27 + 1)))]) (by kernel_rfl) ?_ rfl
     clear hs; intro a hs
     refine go_end (by kernel_rfl) ?_
     replace hw := hw.only 1
     exact round_end (w64 (v27 + 1)) (Option.some.inj H).symm ⟨hs.keep [1, 3, 4] (by kernel_rfl), hw⟩
   ·replace H := ite_f H (of_decide_eq_false hc)
    have hb40 := hc
    rw [hb40] at hs
    refine wp_exit ?_
    refine th_exit ?_
    refine th_exit ?_
    refine in_block ?_
    replace hw := hw.only 1
    rw [← hr26 _ (Option.some.inj H).symm] at HX26
    exact hJ3 _ _ (hs.keep [1, 3] (by kernel_rfl)) hw HX26
 refine go_seq_k fun K8 hK8 => ?_
 have hJ1 : ∀ (v10 : Bool) (a : Act) (w : World), Slots a 105 [(1, .pointer (some (⟨g2, 0, none⟩ : Addr))), (3, .int .i64 (a0.Words.length : Int)), (18, .bool v10)] → St [] w0 w [box g2 26 [.slice A0_1 a0.Words.length c0_1, .slice A0_2 a0.Sites.length c0_2, .slice A0_3 a0.Syms.length c0_3]] → rivetref09_May.j1 a0 v10 = some r → K8 a w := by
  intro v10 a w hs hw H
  unfold rivetref09_May.j1 at H
  refine hK8 _ _ ?_
  refine go_cond hs v10 (by kernel_rfl) (fun hc => ?_) (fun hc => ?_)
  ·replace H := ite_t H hc
   have hb11 := hc
   rw [hb11] at hs
   refine go_seq_k fun K12 hK12 => ?_
   refine go_region ?_
   refine go_pvs 0 1 [2] hs (L' := [(2, .int .i64 2)]) (by kernel_rfl) ?_ rfl
   clear hs; intro a hs
   refine go_end (by kernel_rfl) ?_
   refine hK12 _ _ ?_
   refine wp_ret ?_
   refine th_ret ?_
   obtain rfl := Option.some.inj H
   refine ret1 (t := 2) (v := .int .i64 2) hs (by kernel_rfl) (by kernel_rfl) ?_
   exact ⟨rfl, hw.only 0⟩
  ·replace H := ite_f H (ff hc)
   have hb13 := hc
   rw [hb13] at hs
   refine wp_skip ?_
   replace hw := hw.only 1
   exact hJ2 _ _ (hs.keep [1, 3] (by kernel_rfl)) hw H
 refine go_region ?_
 refine go_pvs 0 3 [1, 3, 13] hs (L' := [(1, .pointer (some (⟨g2, 0, none⟩ : Addr))), (3, .int .i64 (a0.Words.length : Int)), (13, .bool (decide ((a0.Words.length : Int) > 1024)))]) (by kernel_rfl) ?_ rfl
 clear hs; intro a hs
 cases hb9 : (decide ((a0.Words.length : Int) > 1024))
 ·replace H := ite_f H (of_decide_eq_false hb9)
  rw [hb9] at hs
  refine go_pvs 3 4 [1, 3, 13, 14] hs (L' := [(1, .pointer (some (⟨g2, 0, none⟩ : Addr))), (3, .int .i64 (a0.Words.length : Int)), (13, .bool false), (14, .pointer (some (((⟨g2, 0, none⟩ : Addr) : Addr).add 2)))]) (by kernel_rfl) ?_ rfl
  clear hs; intro a hs
  refine go_run hs (op := (Op.load 24 (Operand.tmp 14))) (ty := 24) (dst := some 15) (g := some (2, false)) (by kernel_rfl) (by kernel_rfl) (by kernel_rfl) (x_bld (g := g2) (o := 2) (p := ((⟨g2, 0, none⟩ : Addr) : Addr).add 2) (v := .slice A0_3 a0.Syms.length c0_3) (hw.up 0) (by kernel_rfl) rfl (by kernel_rfl) (by kernel_rfl)) [1, 3, 13, 15] (L' := [(1, .pointer (some (⟨g2, 0, none⟩ : Addr))), (3, .int .i64 (a0.Words.length : Int)), (13, .bool false), (15, .slice A0_3 a0.Syms.length c0_3)]) (by kernel_rfl) ?_
  clear hs; intro a hs
  refine go_pvs 5 8 [1, 3, 18] hs (L' := [(1, .pointer (some (⟨g2, 0, none⟩ : Addr))), (3, .int .i64 (a0.Words.length : Int)), (18, .bool (decide ((a0.Syms.length : Int) > 64)))]) (by kernel_rfl) ?_ rfl
  clear hs; intro a hs
  refine go_end (by kernel_rfl) ?_
  replace hw := hw.only 1
  exact hJ1 (decide ((a0.Syms.length : Int) > 64)) _ _ (hs.keep [1, 3, 18] (by kernel_rfl)) hw H
 ·replace H := ite_t H (of_decide_eq_true hb9)
  rw [hb9] at hs
  refine go_pvs 3 8 [1, 3, 18] hs (L' := [(1, .pointer (some (⟨g2, 0, none⟩ : Addr))), (3, .int .i64 (a0.Words.length : Int)), (18, .bool true)]) (by kernel_rfl) ?_ rfl
  clear hs; intro a hs
  refine go_end (by kernel_rfl) ?_
  replace hw := hw.only 1
  exact hJ1 true _ _ (hs.keep [1, 3, 18] (by kernel_rfl)) hw H

/-! rivet/object.Same: function 17 -/
noncomputable def object_Same.j1 (v28 : Bool) : Option Bool := some v28
noncomputable def object_Same (a0 : Sapi_Obj) (a1 : Sapi_Obj) : Option Bool := ((slices_Equal_uint32_uint32 a0.Words a1.Words).bind fun t12 => ((if t12 = true then ((slices_Equal_int_int a0.Sites a1.Sites).bind fun t18 => ((if t18 = true then ((api_Sym a0.Syms a1.Syms).bind fun t24 => (object_Same.j1 t24)) else object_Same.j1 false))) else object_Same.j1 false)))
set_option maxRecDepth 100000 in
set_option maxHeartbeats 4000000 in
theorem object_Same.calls (a0 : Sapi_Obj) (A0_1 : Option Addr) (c0_1 : Nat) (A0_2 : Option Addr) (c0_2 : Nat) (A0_3 : Option Addr) (c0_3 : Nat) (a1 : Sapi_Obj) (A1_1 : Option Addr) (c1_1 : Nat) (A1_2 : Option Addr) (c1_2 : Nat) (A1_3 : Option Addr) (c1_3 : Nat) (r : Bool) (w0 : World) (hr0_1 : Rd w0 (eI .u32) A0_1 c0_1 a0.Words) (hr0_2 : Rd w0 (eI .i64) A0_2 c0_2 a0.Sites) (hr0_3 : Rd w0 eSapi_Sym A0_3 c0_3 a0.Syms) (hr1_1 : Rd w0 (eI .u32) A1_1 c1_1 a1.Words) (hr1_2 : Rd w0 (eI .i64) A1_2 c1_2 a1.Sites) (hr1_3 : Rd w0 eSapi_Sym A1_3 c1_3 a1.Syms) (H : object_Same a0 a1 = some r) :
    Calls Tryd.prog 17 #[.agg #[.slice A0_1 a0.Words.length c0_1, .slice A0_2 a0.Sites.length c0_2, .slice A0_3 a0.Syms.length c0_3], .agg #[.slice A1_1 a1.Words.length c1_1, .slice A1_2 a1.Sites.length c1_2, .slice A1_3 a1.Syms.length c1_3]] w0 fun e w' => e = .returned (.bool r) ∧ St [] w0 w' [] := by
 have hw : St [] w0 w0 [] := St.nil w0
 unfold object_Same at H
 refine go_fn Tryd.func17 rfl 24 Tryd.ntmps17 [(0, .agg #[.slice A0_1 a0.Words.length c0_1, .slice A0_2 a0.Sites.length c0_2, .slice A0_3 a0.Syms.length c0_3]), (1, .agg #[.slice A1_1 a1.Words.length c1_1, .slice A1_2 a1.Sites.length c1_2, .slice A1_3 a1.Syms.length c1_3])] (by kernel_rfl) rfl ?_
 intro a hs
 refine go_seq_k fun K1 hK1 => ?_
 refine go_region ?_
 obtain ⟨g2, wd3, hx4, hw⟩ := x_boxc (P := Tryd.prog) (elem := 26) (v := (Operand.tmp 0)) (ty := 0) (cs := [.slice A0_1 a0.Words.length c0_1, .slice A0_2 a0.Sites.length c0_2, .slice A0_3 a0.Syms.length c0_3]) hs hw (by kernel_rfl)
 refine go_run hs (op := (Op.box 26 (Operand.tmp 0))) (ty := 0) (dst := some 2) (g := none) (by kernel_rfl) (by kernel_rfl) (by kernel_rfl) hx4 [1, 2] (L' := [(1, .agg #[.slice A1_1 a1.Words.length c1_1, .slice A1_2 a1.Sites.length c1_2, .slice A1_3 a1.Syms.length c1_3]), (2, .pointer (some (⟨g2, 0, none⟩ : Addr)))]) (by kernel_rfl) ?_
 clear hs; intro a hs
 obtain ⟨g6, wd7, hx8, hw⟩ := x_boxc (P := Tryd.prog) (elem := 26) (v := (Operand.tmp 1)) (ty := 0) (cs := [.slice A1_1 a1.Words.length c1_1, .slice A1_2 a1.Sites.length c1_2, .slice A1_3 a1.Syms.length c1_3]) hs hw (by kernel_rfl)
 refine go_run hs (op := (Op.box 26 (Operand.tmp 1))) (ty := 0) (dst := some 3) (g := none) (by kernel_rfl) (by kernel_rfl) (by kernel_rfl) hx8 [2, 3] (L' := [(2, .pointer (some (⟨g2, 0, none⟩ : Addr))), (3, .pointer (some (⟨g6, 0, none⟩ : Addr)))]) (by kernel_rfl) ?_
 clear hs; intro a hs
 refine go_pvs 2 3 [2, 3] hs (L' := [(2, .pointer (some (⟨g2, 0, none⟩ : Addr))), (3, .pointer (some (⟨g6, 0, none⟩ : Addr)))]) (by kernel_rfl) ?_ rfl
 clear hs; intro a hs
 refine go_end (by kernel_rfl) ?_
 refine hK1 _ _ ?_
 refine go_seq_k fun K10 hK10 => ?_
 have hJ1 : ∀ (v28 : Bool) (a : Act) (w : World), Slots a 24 [(4, .bool v28)] → St [] w0 w [box g6 26 [.slice A1_1 a1.Words.length c1_1, .slice A1_2 a1.Sites.length c1_2, .slice A1_3 a1.Syms.length c1_3], box g2 26 [.slice A0_1 a0.Words.length c0_1, .slice A0_2 a0.Sites.length c0_2, .slice A0_3 a0.Syms.length c0_3]] → object_Same.j1 v28 = some r → K10 a w := by
  intro v28 a w hs hw H
  unfold object_Same.j1 at H
  refine hK10 _ _ ?_
  refine wp_ret ?_
  obtain rfl := Option.some.inj H
  refine ret1 (t := 4) (v := .bool v28) hs (by kernel_rfl) (by kernel_rfl) ?_
  exact ⟨rfl, hw.only 0⟩
 refine go_region ?_
 refine go_pvs 0 1 [2, 3, 5] hs (L' := [(2, .pointer (some (⟨g2, 0, none⟩ : Addr))), (3, .pointer (some (⟨g6, 0, none⟩ : Addr))), (5, .pointer (some (((⟨g2, 0, none⟩ : Addr) : Addr).add 0)))]) (by kernel_rfl) ?_ rfl
 clear hs; intro a hs
 refine go_run hs (op := (Op.load 22 (Operand.tmp 5))) (ty := 22) (dst := some 6) (g := none) (by kernel_rfl) (by kernel_rfl) (by kernel_rfl) (x_bld (g := g2) (o := 0) (p := ((⟨g2, 0, none⟩ : Addr) : Addr).add 0) (v := .slice A0_1 a0.Words.length c0_1) (hw.up 1) (by kernel_rfl) rfl (by kernel_rfl) (by kernel_rfl)) [2, 3, 6] (L' := [(2, .pointer (some (⟨g2, 0, none⟩ : Addr))), (3, .pointer (some (⟨g6, 0, none⟩ : Addr))), (6, .slice A0_1 a0.Words.length c0_1)]) (by kernel_rfl) ?_
 clear hs; intro a hs
 refine go_pvs 2 3 [2, 3, 6, 7] hs (L' := [(2, .pointer (some (⟨g2, 0, none⟩ : Addr))), (3, .pointer (some (⟨g6, 0, none⟩ : Addr))), (6, .slice A0_1 a0.Words.length c0_1), (7, .pointer (some (((⟨g6, 0, none⟩ : Addr) : Addr).add 0)))]) (by kernel_rfl) ?_ rfl
 clear hs; intro a hs
 refine go_run hs (op := (Op.load 22 (Operand.tmp 7))) (ty := 22) (dst := some 8) (g := none) (by kernel_rfl) (by kernel_rfl) (by kernel_rfl) (x_bld (g := g6) (o := 0) (p := ((⟨g6, 0, none⟩ : Addr) : Addr).add 0) (v := .slice A1_1 a1.Words.length c1_1) (hw.up 0) (by kernel_rfl) rfl (by kernel_rfl) (by kernel_rfl)) [2, 3, 6, 8] (L' := [(2, .pointer (some (⟨g2, 0, none⟩ : Addr))), (3, .pointer (some (⟨g6, 0, none⟩ : Addr))), (6, .slice A0_1 a0.Words.length c0_1), (8, .slice A1_1 a1.Words.length c1_1)]) (by kernel_rfl) ?_
 clear hs; intro a hs
 obtain ⟨t12, hx13, H⟩ := bind_some H
 refine go_call hs (op := (Op.call { callee := (Callee.value (Operand.func 38)), args := #[(Operand.tmp 6), (Operand.tmp 8)], argTypes := #[22, 22] })) (ty := 4) (dst := some 9) (g := none) (by kernel_rfl) (by kernel_rfl) (by kernel_rfl) (f := 38) (args := #[.slice A0_1 a0.Words.length c0_1, .slice A1_1 a1.Words.length c1_1]) (by kernel_rfl) (slices_Equal_uint32_uint32.calls A0_1 c0_1 a0.Words A1_1 c1_1 a1.Words t12 _ (hr0_1.old hw) (hr1_1.old hw) hx13) ?_
 rintro e wd14 ⟨rfl, hw15⟩
 refine ⟨_, rfl, ?_⟩
 replace hw := hw.call hw15
 intro a hs1
 replace hs : Slots a 24 [(2, .pointer (some (⟨g2, 0, none⟩ : Addr))), (3, .pointer (some (⟨g6, 0, none⟩ : Addr))), (9, .bool t12)] := hs1.keep [2, 3, 9] (by kernel_rfl)
 clear hs1
 refine go_pvs 5 6 [2, 3, 10] hs (L' := [(2, .pointer (some (⟨g2, 0, none⟩ : Addr))), (3, .pointer (some (⟨g6, 0, none⟩ : Addr))), (10, .bool t12)]) (by kernel_rfl) ?_ rfl
 clear hs; intro a hs
 cases hb16 : t12
 ·replace H := ite_f H (ff hb16)
  rw [hb16] at hs
  refine go_pvs 6 20 [4] hs (L' := [(4, .bool false)]) (by kernel_rfl) ?_ rfl
  clear hs; intro a hs
  refine go_end (by kernel_rfl) ?_
  replace hw := hw.up 1
  replace hw := hw.up 1
  replace hw := hw.only 2
  exact hJ1 false _ _ (hs.keep [4] (by kernel_rfl)) hw H
 ·replace H := ite_t H hb16
  rw [hb16] at hs
  refine go_pvs 6 7 [2, 3, 10, 11] hs (L' := [(2, .pointer (some (⟨g2, 0, none⟩ : Addr))), (3, .pointer (some (⟨g6, 0, none⟩ : Addr))), (10, .bool true), (11, .pointer (some (((⟨g2, 0, none⟩ : Addr) : Addr).add 1)))]) (by kernel_rfl) ?_ rfl
  clear hs; intro a hs
  refine go_run hs (op := (Op.load 23 (Operand.tmp 11))) (ty := 23) (dst := some 12) (g := some (5, true)) (by kernel_rfl) (by kernel_rfl) (by kernel_rfl) (x_bld (g := g2) (o := 1) (p := ((⟨g2, 0, none⟩ : Addr) : Addr).add 1) (v := .slice A0_2 a0.Sites.length c0_2) (hw.up 1) (by kernel_rfl) rfl (by kernel_rfl) (by kernel_rfl)) [2, 3, 10, 12] (L' := [(2, .pointer (some (⟨g2, 0, none⟩ : Addr))), (3, .pointer (some (⟨g6, 0, none⟩ : Addr))), (10, .bool true), (12, .slice A0_2 a0.Sites.length c0_2)]) (by kernel_rfl) ?_
  clear hs; intro a hs
  refine go_pvs 8 9 [2, 3, 10, 12, 13] hs (L' := [(2, .pointer (some (⟨g2, 0, none⟩ : Addr))), (3, .pointer (some (⟨g6, 0, none⟩ : Addr))), (10, .bool true), (12, .slice A0_2 a0.Sites.length c0_2), (13, .pointer (some (((⟨g6, 0, none⟩ : Addr) : Addr).add 1)))]) (by kernel_rfl) ?_ rfl
  clear hs; intro a hs
  refine go_run hs (op := (Op.load 23 (Operand.tmp 13))) (ty := 23) (dst := some 14) (g := some (5, true)) (by kernel_rfl) (by kernel_rfl) (by kernel_rfl) (x_bld (g := g6) (o := 1) (p := ((⟨g6, 0, none⟩ : Addr) : Addr).add 1) (v := .slice A1_2 a1.Sites.length c1_2) (hw.up 0) (by kernel_rfl) rfl (by kernel_rfl) (by kernel_rfl)) [2, 3, 10, 12, 14] (L' := [(2, .pointer (some (⟨g2, 0, none⟩ : Addr))), (3, .pointer (some (⟨g6, 0, none⟩ : Addr))), (10, .bool true), (12, .slice A0_2 a0.Sites.length c0_2), (14, .slice A1_2 a1.Sites.length c1_2)]) (by kernel_rfl) ?_
  clear hs; intro a hs
  obtain ⟨t18, hx19, H⟩ := bind_some H
  refine go_call hs (op := (Op.call { callee := (Callee.value (Operand.func 39)), args := #[(Operand.tmp 12), (Operand.tmp 14)], argTypes := #[23, 23] })) (ty := 4) (dst := some 15) (g := some (5, true)) (by kernel_rfl) (by kernel_rfl) (by kernel_rfl) (f := 39) (args := #[.slice A0_2 a0.Sites.length c0_2, .slice A1_2 a1.Sites.length c1_2]) (by kernel_rfl) (slices_Equal_int_int.calls A0_2 c0_2 a0.Sites A1_2 c1_2 a1.Sites t18 _ (hr0_2.old hw) (hr1_2.old hw) hx19) ?_
  rintro e wd20 ⟨rfl, hw21⟩
  refine ⟨_, rfl, ?_⟩
  replace hw := hw.call hw21
  intro a hs1
  replace hs : Slots a 24 [(2, .pointer (some (⟨g2, 0, none⟩ : Addr))), (3, .pointer (some (⟨g6, 0, none⟩ : Addr))), (10, .bool true), (15, .bool t18)] := hs1.keep [2, 3, 10, 15] (by kernel_rfl)
  clear hs1
  refine go_pvs 11 13 [2, 3, 17] hs (L' := [(2, .pointer (some (⟨g2, 0, none⟩ : Addr))), (3, .pointer (some (⟨g6, 0, none⟩ : Addr))), (17, .bool t18)]) (by kernel_rfl) ?_ rfl
  clear hs; intro a hs
  cases hb22 : t18
  ·replace H := ite_f H (ff hb22)
   rw [hb22] at hs
   refine go_pvs 13 20 [4] hs (L' := [(4, .bool false)]) (by kernel_rfl) ?_ rfl
   clear hs; intro a hs
   refine go_end (by kernel_rfl) ?_
   replace hw := hw.up 1
   replace hw := hw.up 1
   replace hw := hw.only 2
   exact hJ1 false _ _ (hs.keep [4] (by kernel_rfl)) hw H
  ·replace H := ite_t H hb22
   rw [hb22] at hs
   refine go_pvs 13 14 [3, 17, 18] hs (L' := [(3, .pointer (some (⟨g6, 0, none⟩ : Addr))), (17, .bool true), (18, .pointer (some (((⟨g2, 0, none⟩ : Addr) : Addr).add 2)))]) (by kernel_rfl) ?_ rfl
   clear hs; intro a hs
   refine go_run hs (op := (Op.load 24 (Operand.tmp 18))) (ty := 24) (dst := some 19) (g := some (12, true)) (by kernel_rfl) (by kernel_rfl) (by kernel_rfl) (x_bld (g := g2) (o := 2) (p := ((⟨g2, 0, none⟩ : Addr) : Addr).add 2) (v := .slice A0_3 a0.Syms.length c0_3) (hw.up 1) (by kernel_rfl) rfl (by kernel_rfl) (by kernel_rfl)) [3, 17, 19] (L' := [(3, .pointer (some (⟨g6, 0, none⟩ : Addr))), (17, .bool true), (19, .slice A0_3 a0.Syms.length c0_3)]) (by kernel_rfl) ?_
   clear hs; intro a hs
   refine go_pvs 15 16 [17, 19, 20] hs (L' := [(17, .bool true), (19, .slice A0_3 a0.Syms.length c0_3), (20, .pointer (some (((⟨g6, 0, none⟩ : Addr) : Addr).add 2)))]) (by kernel_rfl) ?_ rfl
   clear hs; intro a hs
   refine go_run hs (op := (Op.load 24 (Operand.tmp 20))) (ty := 24) (dst := some 21) (g := some (12, true)) (by kernel_rfl) (by kernel_rfl) (by kernel_rfl) (x_bld (g := g6) (o := 2) (p := ((⟨g6, 0, none⟩ : Addr) : Addr).add 2) (v := .slice A1_3 a1.Syms.length c1_3) (hw.up 0) (by kernel_rfl) rfl (by kernel_rfl) (by kernel_rfl)) [17, 19, 21] (L' := [(17, .bool true), (19, .slice A0_3 a0.Syms.length c0_3), (21, .slice A1_3 a1.Syms.length c1_3)]) (by kernel_rfl) ?_
   clear hs; intro a hs
   obtain ⟨t24, hx25, H⟩ := bind_some H
   refine go_call hs (op := (Op.call { callee := (Callee.value (Operand.func 40)), args := #[(Operand.tmp 19), (Operand.tmp 21)], argTypes := #[24, 24] })) (ty := 4) (dst := some 22) (g := some (12, true)) (by kernel_rfl) (by kernel_rfl) (by kernel_rfl) (f := 40) (args := #[.slice A0_3 a0.Syms.length c0_3, .slice A1_3 a1.Syms.length c1_3]) (by kernel_rfl) (api_Sym.calls A0_3 c0_3 a0.Syms A1_3 c1_3 a1.Syms t24 _ (hr0_3.old hw) (hr1_3.old hw) hx25) ?_
   rintro e wd26 ⟨rfl, hw27⟩
   refine ⟨_, rfl, ?_⟩
   replace hw := hw.call hw27
   intro a hs1
   replace hs : Slots a 24 [(17, .bool true), (22, .bool t24)] := hs1.keep [17, 22] (by kernel_rfl)
   clear hs1
   refine go_pvs 18 20 [4] hs (L' := [(4, .bool t24)]) (by kernel_rfl) ?_ rfl
   clear hs; intro a hs
   refine go_end (by kernel_rfl) ?_
   replace hw := hw.up 1
   replace hw := hw.up 1
   replace hw := hw.only 2
   exact hJ1 t24 _ _ (hs.keep [4] (by kernel_rfl)) hw H

/-! rivet/rivetref09.Same: function 18 -/
noncomputable def rivetref09_Same.b30 (a0 : Sapi_Obj) (a1 : Sapi_Obj) (v31 : Int) : Option (Int ⊕ (Ex Bool Unit)) := (if v31 < (a0.Syms.length : Int) then (if 0 ≤ v31 ∧ v31 < (a0.Syms.length : Int) then (if 0 ≤ v31 ∧ v31 < (a1.Syms.length : Int) then (if (!((((ix eSapi_Sym.d a0.Syms v31).Name).toList == ((ix eSapi_Sym.d a1.Syms v31).Name).toList) && ((((ix eSapi_Sym.d a0.Syms v31).At) == ((ix eSapi_Sym.d a1.Syms v31).At)) && true))) = true then some (.inr (.ret false)) else some (.inl (w64 (v31 + 1)))) else none) else none) else some (.inr (.done ())))
noncomputable def rivetref09_Same.j3 : Option Bool := some true
noncomputable def rivetref09_Same.j2 (a0 : Sapi_Obj) (a1 : Sapi_Obj) : Option Bool := ((loopO (fun (σ : Int) => rivetref09_Same.b30 a0 a1 σ) 0).bind fun e => match e with | .ret x => some x | .done e => rivetref09_Same.j3)
noncomputable def rivetref09_Same.j1 (a0 : Sapi_Obj) (a1 : Sapi_Obj) (v24 : Bool) : Option Bool := (if v24 = true then some false else rivetref09_Same.j2 a0 a1)
noncomputable def rivetref09_Same (a0 : Sapi_Obj) (a1 : Sapi_Obj) : Option Bool := ((rivetref05_Same a0.Words a1.Words).bind fun t13 => ((if t13 = true then ((rivetref08_Same a0.Sites a1.Sites).bind fun t19 => ((if t19 = true then rivetref09_Same.j1 a0 a1 ((a0.Syms.length : Int) != (a1.Syms.length : Int)) else rivetref09_Same.j1 a0 a1 true))) else rivetref09_Same.j1 a0 a1 true)))
set_option maxRecDepth 100000 in
set_option maxHeartbeats 4000000 in
theorem rivetref09_Same.calls (a0 : Sapi_Obj) (A0_1 : Option Addr) (c0_1 : Nat) (A0_2 : Option Addr) (c0_2 : Nat) (A0_3 : Option Addr) (c0_3 : Nat) (a1 : Sapi_Obj) (A1_1 : Option Addr) (c1_1 : Nat) (A1_2 : Option Addr) (c1_2 : Nat) (A1_3 : Option Addr) (c1_3 : Nat) (r : Bool) (w0 : World) (hr0_1 : Rd w0 (eI .u32) A0_1 c0_1 a0.Words) (hr0_2 : Rd w0 (eI .i64) A0_2 c0_2 a0.Sites) (hr0_3 : Rd w0 eSapi_Sym A0_3 c0_3 a0.Syms) (hr1_1 : Rd w0 (eI .u32) A1_1 c1_1 a1.Words) (hr1_2 : Rd w0 (eI .i64) A1_2 c1_2 a1.Sites) (hr1_3 : Rd w0 eSapi_Sym A1_3 c1_3 a1.Syms) (H : rivetref09_Same a0 a1 = some r) :
    Calls Tryd.prog 18 #[.agg #[.slice A0_1 a0.Words.length c0_1, .slice A0_2 a0.Sites.length c0_2, .slice A0_3 a0.Syms.length c0_3], .agg #[.slice A1_1 a1.Words.length c1_1, .slice A1_2 a1.Sites.length c1_2, .slice A1_3 a1.Syms.length c1_3]] w0 fun e w' => e = .returned (.bool r) ∧ St [] w0 w' [] := by
 have hw : St [] w0 w0 [] := St.nil w0
 unfold rivetref09_Same at H
 refine go_fn Tryd.func18 rfl 47 Tryd.ntmps18 [(0, .agg #[.slice A0_1 a0.Words.length c0_1, .slice A0_2 a0.Sites.length c0_2, .slice A0_3 a0.Syms.length c0_3]), (1, .agg #[.slice A1_1 a1.Words.length c1_1, .slice A1_2 a1.Sites.length c1_2, .slice A1_3 a1.Syms.length c1_3])] (by kernel_rfl) rfl ?_
 intro a hs
 refine go_seq_k fun K1 hK1 => ?_
 refine go_region ?_
 obtain ⟨g2, wd3, hx4, hw⟩ := x_boxc (P := Tryd.prog) (elem := 26) (v := (Operand.tmp 0)) (ty := 0) (cs := [.slice A0_1 a0.Words.length c0_1, .slice A0_2 a0.Sites.length c0_2, .slice A0_3 a0.Syms.length c0_3]) hs hw (by kernel_rfl)
 refine go_run hs (op := (Op.box 26 (Operand.tmp 0))) (ty := 0) (dst := some 2) (g := none) (by kernel_rfl) (by kernel_rfl) (by kernel_rfl) hx4 [1, 2] (L' := [(1, .agg #[.slice A1_1 a1.Words.length c1_1, .slice A1_2 a1.Sites.length c1_2, .slice A1_3 a1.Syms.length c1_3]), (2, .pointer (some (⟨g2, 0, none⟩ : Addr)))]) (by kernel_rfl) ?_
 clear hs; intro a hs
 obtain ⟨g6, wd7, hx8, hw⟩ := x_boxc (P := Tryd.prog) (elem := 26) (v := (Operand.tmp 1)) (ty := 0) (cs := [.slice A1_1 a1.Words.length c1_1, .slice A1_2 a1.Sites.length c1_2, .slice A1_3 a1.Syms.length c1_3]) hs hw (by kernel_rfl)
 refine go_run hs (op := (Op.box 26 (Operand.tmp 1))) (ty := 0) (dst := some 3) (g := none) (by kernel_rfl) (by kernel_rfl) (by kernel_rfl) hx8 [2, 3] (L' := [(2, .pointer (some (⟨g2, 0, none⟩ : Addr))), (3, .pointer (some (⟨g6, 0, none⟩ : Addr)))]) (by kernel_rfl) ?_
 clear hs; intro a hs
 refine go_pvs 2 3 [2, 3] hs (L' := [(2, .pointer (some (⟨g2, 0, none⟩ : Addr))), (3, .pointer (some (⟨g6, 0, none⟩ : Addr)))]) (by kernel_rfl) ?_ rfl
 clear hs; intro a hs
 refine go_end (by kernel_rfl) ?_
 refine hK1 _ _ ?_
 refine go_seq_k fun K10 hK10 => ?_
 have hJ2 : ∀ (a : Act) (w : World), Slots a 47 [(2, .pointer (some (⟨g2, 0, none⟩ : Addr))), (3, .pointer (some (⟨g6, 0, none⟩ : Addr)))] → St [] w0 w [box g6 26 [.slice A1_1 a1.Words.length c1_1, .slice A1_2 a1.Sites.length c1_2, .slice A1_3 a1.Syms.length c1_3], box g2 26 [.slice A0_1 a0.Words.length c0_1, .slice A0_2 a0.Sites.length c0_2, .slice A0_3 a0.Syms.length c0_3]] → rivetref09_Same.j2 a0 a1 = some r → K10 a w := by
  intro a w hs hw H
  unfold rivetref09_Same.j2 at H
  refine hK10 _ _ ?_
  refine go_seq_k fun K28 hK28 => ?_
  refine go_seq_k fun K29 hK29 => ?_
  refine go_region ?_
  refine go_pvs 0 1 [2, 3, 5] hs (L' := [(2, .pointer (some (⟨g2, 0, none⟩ : Addr))), (3, .pointer (some (⟨g6, 0, none⟩ : Addr))), (5, .int .i64 0)]) (by kernel_rfl) ?_ rfl
  clear hs; intro a hs
  refine go_end (by kernel_rfl) ?_
  refine hK29 _ _ ?_
  refine wp_block ?_
  obtain ⟨e30, hl30, HX30⟩ := bind_some H
  have hJ3 : ∀ (a : Act) (w : World), Slots a 47 [] → St [] w0 w [box g6 26 [.slice A1_1 a1.Words.length c1_1, .slice A1_2 a1.Sites.length c1_2, .slice A1_3 a1.Syms.length c1_3], box g2 26 [.slice A0_1 a0.Words.length c0_1, .slice A0_2 a0.Sites.length c0_2, .slice A0_3 a0.Syms.length c0_3]] → rivetref09_Same.j3 = some r → K28 a w := by
   intro a w hs hw H
   unfold rivetref09_Same.j3 at H
   refine hK28 _ _ ?_
   refine go_seq_k fun K45 hK45 => ?_
   refine go_region ?_
   refine go_pvs 0 1 [4] hs (L' := [(4, .bool true)]) (by kernel_rfl) ?_ rfl
   clear hs; intro a hs
   refine go_end (by kernel_rfl) ?_
   refine hK45 _ _ ?_
   refine wp_ret ?_
   obtain rfl := Option.some.inj H
   refine ret1 (t := 4) (v := .bool true) hs (by kernel_rfl) (by kernel_rfl) ?_
   exact ⟨rfl, hw.only 0⟩
  clear H
  refine go_loop (σ := Int) (fun σ a w => Slots a 47 [(2, .pointer (some (⟨g2, 0, none⟩ : Addr))), (3, .pointer (some (⟨g6, 0, none⟩ : Addr))), (5, .int .i64 σ)] ∧ St [] w0 w [box g6 26 [.slice A1_1 a1.Words.length c1_1, .slice A1_2 a1.Sites.length c1_2, .slice A1_3 a1.Syms.length c1_3], box g2 26 [.slice A0_1 a0.Words.length c0_1, .slice A0_2 a0.Sites.length c0_2, .slice A0_3 a0.Syms.length c0_3]]) hl30 (by exact ⟨hs.keep [2, 3, 5] (by kernel_rfl), hw⟩) ?_
  rintro v31 a w ⟨hs, hw⟩ o H hr30
  replace hs : Slots a 47 [(2, .pointer (some (⟨g2, 0, none⟩ : Addr))), (3, .pointer (some (⟨g6, 0, none⟩ : Addr))), (5, .int .i64 v31)] := hs
  replace hw : St [] w0 w [box g6 26 [.slice A1_1 a1.Words.length c1_1, .slice A1_2 a1.Sites.length c1_2, .slice A1_3 a1.Syms.length c1_3], box g2 26 [.slice A0_1 a0.Words.length c0_1, .slice A0_2 a0.Sites.length c0_2, .slice A0_3 a0.Syms.length c0_3]] := hw
  replace H : rivetref09_Same.b30 a0 a1 v31 = some o := H
  unfold rivetref09_Same.b30 at H
  refine go_seq_k fun K32 hK32 => ?_
  refine go_seq_k fun K33 hK33 => ?_
  refine go_region ?_
  refine go_pvs 0 2 [2, 3, 5, 29, 30] hs (L' := [(2, .pointer (some (⟨g2, 0, none⟩ : Addr))), (3, .pointer (some (⟨g6, 0, none⟩ : Addr))), (5, .int .i64 v31), (29, .int .i64 v31), (30, .pointer (some (((⟨g2, 0, none⟩ : Addr) : Addr).add 2)))]) (by kernel_rfl) ?_ rfl
  clear hs; intro a hs
  refine go_run hs (op := (Op.load 24 (Operand.tmp 30))) (ty := 24) (dst := some 31) (g := none) (by kernel_rfl) (by kernel_rfl) (by kernel_rfl) (x_bld (g := g2) (o := 2) (p := ((⟨g2, 0, none⟩ : Addr) : Addr).add 2) (v := .slice A0_3 a0.Syms.length c0_3) (hw.up 1) (by kernel_rfl) rfl (by kernel_rfl) (by kernel_rfl)) [2, 3, 5, 29, 31] (L' := [(2, .pointer (some (⟨g2, 0, none⟩ : Addr))), (3, .pointer (some (⟨g6, 0, none⟩ : Addr))), (5, .int .i64 v31), (29, .int .i64 v31), (31, .slice A0_3 a0.Syms.length c0_3)]) (by kernel_rfl) ?_
  clear hs; intro a hs
  refine go_pvs 3 5 [2, 3, 5, 33] hs (L' := [(2, .pointer (some (⟨g2, 0, none⟩ : Addr))), (3, .pointer (some (⟨g6, 0, none⟩ : Addr))), (5, .int .i64 v31), (33, .bool (decide (v31 < (a0.Syms.length : Int))))]) (by kernel_rfl) ?_ rfl
  clear hs; intro a hs
  refine go_end (by kernel_rfl) ?_
  refine hK33 _ _ ?_
  refine go_cond hs (decide (v31 < (a0.Syms.length : Int))) (by kernel_rfl) (fun hc => ?_) (fun hc => ?_)
  ·replace H := ite_t H (of_decide_eq_true hc)
   have hb34 := hc
   rw [hb34] at hs
   refine wp_skip ?_
   refine hK32 _ _ ?_
   refine go_seq_k fun K35 hK35 => ?_
   refine wp_block ?_
   refine go_seq_k fun K36 hK36 => ?_
   refine q2_region (by kernel_rfl) (by kernel_rfl) ?_
   refine q_pvs 0 1 [2, 3, 5, 36] hs (L' := [(2, .pointer (some (⟨g2, 0, none⟩ : Addr))), (3, .pointer (some (⟨g6, 0, none⟩ : Addr))), (5, .int .i64 v31), (36, .pointer (some (((⟨g2, 0, none⟩ : Addr) : Addr).add 2)))]) (by kernel_rfl) ?_ rfl
   clear hs; intro a hs
   refine q_run hs (op := (Op.load 24 (Operand.tmp 36))) (ty := 24) (dst := some 37) (g := none) (by kernel_rfl) (by kernel_rfl) (by kernel_rfl) (fun wx hbx => (x_bld (g := g2) (o := 2) (p := ((⟨g2, 0, none⟩ : Addr) : Addr).add 2) (v := .slice A0_3 a0.Syms.length c0_3) ((hw.behind hbx).up 1) (by kernel_rfl) rfl (by kernel_rfl) (by kernel_rfl))) [2, 3, 5, 37] (L' := [(2, .pointer (some (⟨g2, 0, none⟩ : Addr))), (3, .pointer (some (⟨g6, 0, none⟩ : Addr))), (5, .int .i64 v31), (37, .slice A0_3 a0.Syms.length c0_3)]) (by kernel_rfl) ?_
   clear hs; intro a hs
   refine q_pvs 2 3 [2, 3, 5, 37, 38] hs (L' := [(2, .pointer (some (⟨g2, 0, none⟩ : Addr))), (3, .pointer (some (⟨g6, 0, none⟩ : Addr))), (5, .int .i64 v31), (37, .slice A0_3 a0.Syms.length c0_3), (38, .int .i64 v31)]) (by kernel_rfl) ?_ rfl
   clear hs; intro a hs
   obtain ⟨hp37, H⟩ := ite_only H
   obtain ⟨ad38, rfl⟩ := (hr0_3.old hw).some hp37.1 hp37.2
   refine q_run hs (op := (Op.indexAddr 24 (Operand.tmp 37) (Operand.tmp 38))) (ty := 0) (dst := some 39) (g := none) (by kernel_rfl) (by kernel_rfl) (by kernel_rfl) (fun wx hbx => (x_idx (T := 39) (sz := 2) (a := ad38) (n := a0.Syms.length) (cap := c0_3) (k := .i64) (i := v31) (by kernel_rfl) (by kernel_rfl) (by kernel_rfl) (by kernel_rfl) hp37.1 hp37.2)) [2, 3, 5, 39] (L' := [(2, .pointer (some (⟨g2, 0, none⟩ : Addr))), (3, .pointer (some (⟨g6, 0, none⟩ : Addr))), (5, .int .i64 v31), (39, .pointer (some (ad38.add (v31.toNat * 2))))]) (by kernel_rfl) ?_
   clear hs; intro a hs
   refine q_run hs (op := (Op.load 39 (Operand.tmp 39))) (ty := 39) (dst := some 40) (g := none) (by kernel_rfl) (by kernel_rfl) (by kernel_rfl) (fun wx hbx => (x_lds (E := eSapi_Sym) (off := 0) (p := ad38.add (v31.toNat * 2)) (cs := [.string ((ix eSapi_Sym.d a0.Syms v31).Name), .int .i64 ((ix eSapi_Sym.d a0.Syms v31).At)]) ((hr0_3.old hw).below hbx) hp37.1 hp37.2 (by kernel_rfl) rfl (by kernel_rfl) (by kernel_rfl) (by kernel_rfl))) [2, 3, 5, 40] (L' := [(2, .pointer (some (⟨g2, 0, none⟩ : Addr))), (3, .pointer (some (⟨g6, 0, none⟩ : Addr))), (5, .int .i64 v31), (40, .agg #[.string ((ix eSapi_Sym.d a0.Syms v31).Name), .int .i64 ((ix eSapi_Sym.d a0.Syms v31).At)])]) (by kernel_rfl) ?_
   clear hs; intro a hs
   refine q_pvs 5 6 [2, 3, 5, 40, 41] hs (L' := [(2, .pointer (some (⟨g2, 0, none⟩ : Addr))), (3, .pointer (some (⟨g6, 0, none⟩ : Addr))), (5, .int .i64 v31), (40, .agg #[.string ((ix eSapi_Sym.d a0.Syms v31).Name), .int .i64 ((ix eSapi_Sym.d a0.Syms v31).At)]), (41, .pointer (some (((⟨g6, 0, none⟩ : Addr) : Addr).add 2)))]) (by kernel_rfl) ?_ rfl
   clear hs; intro a hs
   refine q_run hs (op := (Op.load 24 (Operand.tmp 41))) (ty := 24) (dst := some 42) (g := none) (by kernel_rfl) (by kernel_rfl) (by kernel_rfl) (fun wx hbx => (x_bld (g := g6) (o := 2) (p := ((⟨g6, 0, none⟩ : Addr) : Addr).add 2) (v := .slice A1_3 a1.Syms.length c1_3) ((hw.behind hbx).up 0) (by kernel_rfl) rfl (by kernel_rfl) (by kernel_rfl))) [2, 3, 5, 40, 42] (L' := [(2, .pointer (some (⟨g2, 0, none⟩ : Addr))), (3, .pointer (some (⟨g6, 0, none⟩ : Addr))), (5, .int .i64 v31), (40, .agg #[.string ((ix eSapi_Sym.d a0.Syms v31).Name), .int .i64 ((ix eSapi_Sym.d a0.Syms v31).At)]), (42, .slice A1_3 a1.Syms.length c1_3)]) (by kernel_rfl) ?_
   clear hs; intro a hs
   refine q_pvs 7 8 [2, 3, 5, 40, 42, 43] hs (L' := [(2, .pointer (some (⟨g2, 0, none⟩ : Addr))), (3, .pointer (some (⟨g6, 0, none⟩ : Addr))), (5, .int .i64 v31), (40, .agg #[.string ((ix eSapi_Sym.d a0.Syms v31).Name), .int .i64 ((ix eSapi_Sym.d a0.Syms v31).At)]), (42, .slice A1_3 a1.Syms.length c1_3), (43, .int .i64 v31)]) (by kernel_rfl) ?_ rfl
   clear hs; intro a hs
   obtain ⟨hp39, H⟩ := ite_only H
   obtain ⟨ad40, rfl⟩ := (hr1_3.old hw).some hp39.1 hp39.2
   refine q_run hs (op := (Op.indexAddr 24 (Operand.tmp 42) (Operand.tmp 43))) (ty := 0) (dst := some 44) (g := none) (by kernel_rfl) (by kernel_rfl) (by kernel_rfl) (fun wx hbx => (x_idx (T := 39) (sz := 2) (a := ad40) (n := a1.Syms.length) (cap := c1_3) (k := .i64) (i := v31) (by kernel_rfl) (by kernel_rfl) (by kernel_rfl) (by kernel_rfl) hp39.1 hp39.2)) [2, 3, 5, 40, 44] (L' := [(2, .pointer (some (⟨g2, 0, none⟩ : Addr))), (3, .pointer (some (⟨g6, 0, none⟩ : Addr))), (5, .int .i64 v31), (40, .agg #[.string ((ix eSapi_Sym.d a0.Syms v31).Name), .int .i64 ((ix eSapi_Sym.d a0.Syms v31).At)]), (44, .pointer (some (ad40.add (v31.toNat * 2))))]) (by kernel_rfl) ?_
   clear hs; intro a hs
   refine q_run hs (op := (Op.load 39 (Operand.tmp 44))) (ty := 39) (dst := some 45) (g := none) (by kernel_rfl) (by kernel_rfl) (by kernel_rfl) (fun wx hbx => (x_lds (E := eSapi_Sym) (off := 0) (p := ad40.add (v31.toNat * 2)) (cs := [.string ((ix eSapi_Sym.d a1.Syms v31).Name), .int .i64 ((ix eSapi_Sym.d a1.Syms v31).At)]) ((hr1_3.old hw).below hbx) hp39.1 hp39.2 (by kernel_rfl) rfl (by kernel_rfl) (by kernel_rfl) (by kernel_rfl))) [2, 3, 5, 40, 45] (L' := [(2, .pointer (some (⟨g2, 0, none⟩ : Addr))), (3, .pointer (some (⟨g6, 0, none⟩ : Addr))), (5, .int .i64 v31), (40, .agg #[.string ((ix eSapi_Sym.d a0.Syms v31).Name), .int .i64 ((ix eSapi_Sym.d a0.Syms v31).At)]), (45, .agg #[.string ((ix eSapi_Sym.d a1.Syms v31).Name), .int .i64 ((ix eSapi_Sym.d a1.Syms v31).At)])]) (by kernel_rfl) ?_
   clear hs; intro a hs
   refine q_run hs (op := (Op.binOp BinOp.neq 39 (Operand.tmp 40) (Operand.tmp 45) 39)) (ty := 4) (dst := some 46) (g := none) (by kernel_rfl) (by kernel_rfl) (by kernel_rfl) (fun wx hbx => (x_neq (xs := #[.string ((ix eSapi_Sym.d a0.Syms v31).Name), .int .i64 ((ix eSapi_Sym.d a0.Syms v31).At)]) (ys := #[.string ((ix eSapi_Sym.d a1.Syms v31).Name), .int .i64 ((ix eSapi_Sym.d a1.Syms v31).At)]) (r := ((((ix eSapi_Sym.d a0.Syms v31).Name).toList == ((ix eSapi_Sym.d a1.Syms v31).Name).toList) && ((((ix eSapi_Sym.d a0.Syms v31).At) == ((ix eSapi_Sym.d a1.Syms v31).At)) && true))) (by kernel_rfl) (by kernel_rfl) (by kernel_rfl) (eq_struct Tryd.underlying39 (by kernel_rfl) (eq_cons (a := .string ((ix eSapi_Sym.d a0.Syms v31).Name)) (b := .string ((ix eSapi_Sym.d a1.Syms v31).Name)) (r := (((ix eSapi_Sym.d a0.Syms v31).Name).toList == ((ix eSapi_Sym.d a1.Syms v31).Name).toList)) (s := ((((ix eSapi_Sym.d a0.Syms v31).At) == ((ix eSapi_Sym.d a1.Syms v31).At)) && true)) (by kernel_rfl) (part_pv (by kernel_rfl)) (part_pv (by kernel_rfl)) (run_equalIn_string _ _ _ _ _ (by kernel_rfl)) (eq_cons (a := .int .i64 ((ix eSapi_Sym.d a0.Syms v31).At)) (b := .int .i64 ((ix eSapi_Sym.d a1.Syms v31).At)) (r := (((ix eSapi_Sym.d a0.Syms v31).At) == ((ix eSapi_Sym.d a1.Syms v31).At))) (s := true) (by kernel_rfl) (part_pv (by kernel_rfl)) (part_pv (by kernel_rfl)) (eq_pv (by kernel_rfl)) eq_nil))))) [2, 3, 5, 46] (L' := [(2, .pointer (some (⟨g2, 0, none⟩ : Addr))), (3, .pointer (some (⟨g6, 0, none⟩ : Addr))), (5, .int .i64 v31), (46, .bool (!((((ix eSapi_Sym.d a0.Syms v31).Name).toList == ((ix eSapi_Sym.d a1.Syms v31).Name).toList) && ((((ix eSapi_Sym.d a0.Syms v31).At) == ((ix eSapi_Sym.d a1.Syms v31).At)) && true))))]) (by kernel_rfl) ?_
   clear hs; intro a hs
   refine q_end (by kernel_rfl) ?_
   intro wq hbq
   replace hw := hw.behind hbq
   refine hK36 _ _ ?_
   refine go_cond hs (!((((ix eSapi_Sym.d a0.Syms v31).Name).toList == ((ix eSapi_Sym.d a1.Syms v31).Name).toList) && ((((ix eSapi_Sym.d a0.Syms v31).At) == ((ix eSapi_Sym.d a1.Syms v31).At)) && true))) (by kernel_rfl) (fun hc => ?_) (fun hc => ?_)
   ·replace H := ite_t H hc
    have hb41 := hc
    rw [hb41] at hs
    refine go_seq_k fun K42 hK42 => ?_
    refine go_region ?_
    refine go_pvs 0 1 [4] hs (L' := [(4, .bool false)]) (by kernel_rfl) ?_ rfl
    clear hs; intro a hs
    refine go_end (by kernel_rfl) ?_
    refine hK42 _ _ ?_
    refine wp_ret ?_
    refine ib_ret ?_
    refine th_ret ?_
    refine th_ret ?_
    refine ib_ret ?_
    refine th_ret ?_
    rw [← hr30 _ (Option.some.inj H).symm] at HX30
    replace H : some false = some r := HX30
    obtain rfl := Option.some.inj H
    refine ret1 (t := 4) (v := .bool false) hs (by kernel_rfl) (by kernel_rfl) ?_
    exact ⟨rfl, hw.only 0⟩
   ·replace H := ite_f H (ff hc)
    have hb43 := hc
    rw [hb43] at hs
    refine wp_skip ?_
    refine ib_norm ?_
    refine hK35 _ _ ?_
    refine go_region ?_
    refine go_pvs 0 3 [2, 3, 5] hs (L' := [(2, .pointer (some (⟨g2, 0, none⟩ : Addr))), (3, .pointer (some (⟨g6, 0, none⟩ : Addr))), (5, .int .i64 (w64 (v31 + 1)))]) (by kernel_rfl) ?_ rfl
    clear hs; intro a hs
    refine go_end (by kernel_rfl) ?_
    replace hw := hw.up 1
    replace hw := hw.up 1
    replace hw := hw.only 2
    exact round_end (w64 (v31 + 1)) (Option.some.inj H).symm ⟨hs.keep [2, 3, 5] (by kernel_rfl), hw⟩
  ·replace H := ite_f H (of_decide_eq_false hc)
   have hb44 := hc
   rw [hb44] at hs
   refine wp_exit ?_
   refine th_exit ?_
   refine th_exit ?_
   refine in_block ?_
   replace hw := hw.up 1
   replace hw := hw.up 1
   replace hw := hw.only 2
   rw [← hr30 _ (Option.some.inj H).symm] at HX30
   exact hJ3 _ _ (hs.keep [] (by kernel_rfl)) hw HX30
 refine go_seq_k fun K11 hK11 => ?_
 have hJ1 : ∀ (v24 : Bool) (a : Act) (w : World), Slots a 47 [(2, .pointer (some (⟨g2, 0, none⟩ : Addr))), (3, .pointer (some (⟨g6, 0, none⟩ : Addr))), (28, .bool v24)] → St [] w0 w [box g6 26 [.slice A1_1 a1.Words.length c1_1, .slice A1_2 a1.Sites.length c1_2, .slice A1_3 a1.Syms.length c1_3], box g2 26 [.slice A0_1 a0.Words.length c0_1, .slice A0_2 a0.Sites.length c0_2, .slice A0_3 a0.Syms.length c0_3]] → rivetref09_Same.j1 a0 a1 v24 = some r → K11 a w := by
  intro v24 a w hs hw H
  unfold rivetref09_Same.j1 at H
  refine hK11 _ _ ?_
  refine go_cond hs v24 (by kernel_rfl) (fun hc => ?_) (fun hc => ?_)
  ·replace H := ite_t H hc
   have hb25 := hc
   rw [hb25] at hs
   refine go_seq_k fun K26 hK26 => ?_
   refine go_region ?_
   refine go_pvs 0 1 [4] hs (L' := [(4, .bool false)]) (by kernel_rfl) ?_ rfl
   clear hs; intro a hs
   refine go_end (by kernel_rfl) ?_
   refine hK26 _ _ ?_
   refine wp_ret ?_
   refine th_ret ?_
   obtain rfl := Option.some.inj H
   refine ret1 (t := 4) (v := .bool false) hs (by kernel_rfl) (by kernel_rfl) ?_
   exact ⟨rfl, hw.only 0⟩
  ·replace H := ite_f H (ff hc)
   have hb27 := hc
   rw [hb27] at hs
   refine wp_skip ?_
   replace hw := hw.up 1
   replace hw := hw.up 1
   replace hw := hw.only 2
   exact hJ2 _ _ (hs.keep [2, 3] (by kernel_rfl)) hw H
 refine go_region ?_
 refine go_pvs 0 1 [2, 3, 6] hs (L' := [(2, .pointer (some (⟨g2, 0, none⟩ : Addr))), (3, .pointer (some (⟨g6, 0, none⟩ : Addr))), (6, .pointer (some (((⟨g2, 0, none⟩ : Addr) : Addr).add 0)))]) (by kernel_rfl) ?_ rfl
 clear hs; intro a hs
 refine go_run hs (op := (Op.load 22 (Operand.tmp 6))) (ty := 22) (dst := some 7) (g := none) (by kernel_rfl) (by kernel_rfl) (by kernel_rfl) (x_bld (g := g2) (o := 0) (p := ((⟨g2, 0, none⟩ : Addr) : Addr).add 0) (v := .slice A0_1 a0.Words.length c0_1) (hw.up 1) (by kernel_rfl) rfl (by kernel_rfl) (by kernel_rfl)) [2, 3, 7] (L' := [(2, .pointer (some (⟨g2, 0, none⟩ : Addr))), (3, .pointer (some (⟨g6, 0, none⟩ : Addr))), (7, .slice A0_1 a0.Words.length c0_1)]) (by kernel_rfl) ?_
 clear hs; intro a hs
 refine go_pvs 2 3 [2, 3, 7, 8] hs (L' := [(2, .pointer (some (⟨g2, 0, none⟩ : Addr))), (3, .pointer (some (⟨g6, 0, none⟩ : Addr))), (7, .slice A0_1 a0.Words.length c0_1), (8, .pointer (some (((⟨g6, 0, none⟩ : Addr) : Addr).add 0)))]) (by kernel_rfl) ?_ rfl
 clear hs; intro a hs
 refine go_run hs (op := (Op.load 22 (Operand.tmp 8))) (ty := 22) (dst := some 9) (g := none) (by kernel_rfl) (by kernel_rfl) (by kernel_rfl) (x_bld (g := g6) (o := 0) (p := ((⟨g6, 0, none⟩ : Addr) : Addr).add 0) (v := .slice A1_1 a1.Words.length c1_1) (hw.up 0) (by kernel_rfl) rfl (by kernel_rfl) (by kernel_rfl)) [2, 3, 7, 9] (L' := [(2, .pointer (some (⟨g2, 0, none⟩ : Addr))), (3, .pointer (some (⟨g6, 0, none⟩ : Addr))), (7, .slice A0_1 a0.Words.length c0_1), (9, .slice A1_1 a1.Words.length c1_1)]) (by kernel_rfl) ?_
 clear hs; intro a hs
 obtain ⟨t13, hx14, H⟩ := bind_some H
 refine go_call hs (op := (Op.call { callee := (Callee.value (Operand.func 41)), args := #[(Operand.tmp 7), (Operand.tmp 9)], argTypes := #[22, 22] })) (ty := 4) (dst := some 10) (g := none) (by kernel_rfl) (by kernel_rfl) (by kernel_rfl) (f := 41) (args := #[.slice A0_1 a0.Words.length c0_1, .slice A1_1 a1.Words.length c1_1]) (by kernel_rfl) (rivetref05_Same.calls A0_1 c0_1 a0.Words A1_1 c1_1 a1.Words t13 _ (hr0_1.old hw) (hr1_1.old hw) hx14) ?_
 rintro e wd15 ⟨rfl, hw16⟩
 refine ⟨_, rfl, ?_⟩
 replace hw := hw.call hw16
 intro a hs1
 replace hs : Slots a 47 [(2, .pointer (some (⟨g2, 0, none⟩ : Addr))), (3, .pointer (some (⟨g6, 0, none⟩ : Addr))), (10, .bool t13)] := hs1.keep [2, 3, 10] (by kernel_rfl)
 clear hs1
 refine go_pvs 5 7 [2, 3, 12] hs (L' := [(2, .pointer (some (⟨g2, 0, none⟩ : Addr))), (3, .pointer (some (⟨g6, 0, none⟩ : Addr))), (12, .bool (!t13))]) (by kernel_rfl) ?_ rfl
 clear hs; intro a hs
 cases hb17 : (!t13)
 ·replace H := ite_t H (nf hb17)
  rw [hb17] at hs
  refine go_pvs 7 8 [2, 3, 12, 13] hs (L' := [(2, .pointer (some (⟨g2, 0, none⟩ : Addr))), (3, .pointer (some (⟨g6, 0, none⟩ : Addr))), (12, .bool false), (13, .pointer (some (((⟨g2, 0, none⟩ : Addr) : Addr).add 1)))]) (by kernel_rfl) ?_ rfl
  clear hs; intro a hs
  refine go_run hs (op := (Op.load 23 (Operand.tmp 13))) (ty := 23) (dst := some 14) (g := some (6, false)) (by kernel_rfl) (by kernel_rfl) (by kernel_rfl) (x_bld (g := g2) (o := 1) (p := ((⟨g2, 0, none⟩ : Addr) : Addr).add 1) (v := .slice A0_2 a0.Sites.length c0_2) (hw.up 1) (by kernel_rfl) rfl (by kernel_rfl) (by kernel_rfl)) [2, 3, 12, 14] (L' := [(2, .pointer (some (⟨g2, 0, none⟩ : Addr))), (3, .pointer (some (⟨g6, 0, none⟩ : Addr))), (12, .bool false), (14, .slice A0_2 a0.Sites.length c0_2)]) (by kernel_rfl) ?_
  clear hs; intro a hs
  refine go_pvs 9 10 [2, 3, 12, 14, 15] hs (L' := [(2, .pointer (some (⟨g2, 0, none⟩ : Addr))), (3, .pointer (some (⟨g6, 0, none⟩ : Addr))), (12, .bool false), (14, .slice A0_2 a0.Sites.length c0_2), (15, .pointer (some (((⟨g6, 0, none⟩ : Addr) : Addr).add 1)))]) (by kernel_rfl) ?_ rfl
  clear hs; intro a hs
  refine go_run hs (op := (Op.load 23 (Operand.tmp 15))) (ty := 23) (dst := some 16) (g := some (6, false)) (by kernel_rfl) (by kernel_rfl) (by kernel_rfl) (x_bld (g := g6) (o := 1) (p := ((⟨g6, 0, none⟩ : Addr) : Addr).add 1) (v := .slice A1_2 a1.Sites.length c1_2) (hw.up 0) (by kernel_rfl) rfl (by kernel_rfl) (by kernel_rfl)) [2, 3, 12, 14, 16] (L' := [(2, .pointer (some (⟨g2, 0, none⟩ : Addr))), (3, .pointer (some (⟨g6, 0, none⟩ : Addr))), (12, .bool false), (14, .slice A0_2 a0.Sites.length c0_2), (16, .slice A1_2 a1.Sites.length c1_2)]) (by kernel_rfl) ?_
  clear hs; intro a hs
  obtain ⟨t19, hx20, H⟩ := bind_some H
  refine go_call hs (op := (Op.call { callee := (Callee.value (Operand.func 42)), args := #[(Operand.tmp 14), (Operand.tmp 16)], argTypes := #[23, 23] })) (ty := 4) (dst := some 17) (g := some (6, false)) (by kernel_rfl) (by kernel_rfl) (by kernel_rfl) (f := 42) (args := #[.slice A0_2 a0.Sites.length c0_2, .slice A1_2 a1.Sites.length c1_2]) (by kernel_rfl) (rivetref08_Same.calls A0_2 c0_2 a0.Sites A1_2 c1_2 a1.Sites t19 _ (hr0_2.old hw) (hr1_2.old hw) hx20) ?_
  rintro e wd21 ⟨rfl, hw22⟩
  refine ⟨_, rfl, ?_⟩
  replace hw := hw.call hw22
  intro a hs1
  replace hs : Slots a 47 [(2, .pointer (some (⟨g2, 0, none⟩ : Addr))), (3, .pointer (some (⟨g6, 0, none⟩ : Addr))), (12, .bool false), (17, .bool t19)] := hs1.keep [2, 3, 12, 17] (by kernel_rfl)
  clear hs1
  refine go_pvs 12 15 [2, 3, 20] hs (L' := [(2, .pointer (some (⟨g2, 0, none⟩ : Addr))), (3, .pointer (some (⟨g6, 0, none⟩ : Addr))), (20, .bool (!t19))]) (by kernel_rfl) ?_ rfl
  clear hs; intro a hs
  cases hb23 : (!t19)
  ·replace H := ite_t H (nf hb23)
   rw [hb23] at hs
   refine go_pvs 15 16 [2, 3, 20, 21] hs (L' := [(2, .pointer (some (⟨g2, 0, none⟩ : Addr))), (3, .pointer (some (⟨g6, 0, none⟩ : Addr))), (20, .bool false), (21, .pointer (some (((⟨g2, 0, none⟩ : Addr) : Addr).add 2)))]) (by kernel_rfl) ?_ rfl
   clear hs; intro a hs
   refine go_run hs (op := (Op.load 24 (Operand.tmp 21))) (ty := 24) (dst := some 22) (g := some (14, false)) (by kernel_rfl) (by kernel_rfl) (by kernel_rfl) (x_bld (g := g2) (o := 2) (p := ((⟨g2, 0, none⟩ : Addr) : Addr).add 2) (v := .slice A0_3 a0.Syms.length c0_3) (hw.up 1) (by kernel_rfl) rfl (by kernel_rfl) (by kernel_rfl)) [2, 3, 20, 22] (L' := [(2, .pointer (some (⟨g2, 0, none⟩ : Addr))), (3, .pointer (some (⟨g6, 0, none⟩ : Addr))), (20, .bool false), (22, .slice A0_3 a0.Syms.length c0_3)]) (by kernel_rfl) ?_
   clear hs; intro a hs
   refine go_pvs 17 19 [2, 3, 20, 23, 24] hs (L' := [(2, .pointer (some (⟨g2, 0, none⟩ : Addr))), (3, .pointer (some (⟨g6, 0, none⟩ : Addr))), (20, .bool false), (23, .int .i64 (a0.Syms.length : Int)), (24, .pointer (some (((⟨g6, 0, none⟩ : Addr) : Addr).add 2)))]) (by kernel_rfl) ?_ rfl
   clear hs; intro a hs
   refine go_run hs (op := (Op.load 24 (Operand.tmp 24))) (ty := 24) (dst := some 25) (g := some (14, false)) (by kernel_rfl) (by kernel_rfl) (by kernel_rfl) (x_bld (g := g6) (o := 2) (p := ((⟨g6, 0, none⟩ : Addr) : Addr).add 2) (v := .slice A1_3 a1.Syms.length c1_3) (hw.up 0) (by kernel_rfl) rfl (by kernel_rfl) (by kernel_rfl)) [2, 3, 20, 23, 25] (L' := [(2, .pointer (some (⟨g2, 0, none⟩ : Addr))), (3, .pointer (some (⟨g6, 0, none⟩ : Addr))), (20, .bool false), (23, .int .i64 (a0.Syms.length : Int)), (25, .slice A1_3 a1.Syms.length c1_3)]) (by kernel_rfl) ?_
   clear hs; intro a hs
   refine go_pvs 20 23 [2, 3, 28] hs (L' := [(2, .pointer (some (⟨g2, 0, none⟩ : Addr))), (3, .pointer (some (⟨g6, 0, none⟩ : Addr))), (28, .bool ((a0.Syms.length : Int) != (a1.Syms.length : Int)))]) (by kernel_rfl) ?_ rfl
   clear hs; intro a hs
   refine go_end (by kernel_rfl) ?_
   replace hw := hw.up 1
   replace hw := hw.up 1
   replace hw := hw.only 2
   exact hJ1 ((a0.Syms.length : Int) != (a1.Syms.length : Int)) _ _ (hs.keep [2, 3, 28] (by kernel_rfl)) hw H
  ·replace H := ite_f H (ff (nt hb23))
   rw [hb23] at hs
   refine go_pvs 15 23 [2, 3, 28] hs (L' := [(2, .pointer (some (⟨g2, 0, none⟩ : Addr))), (3, .pointer (some (⟨g6, 0, none⟩ : Addr))), (28, .bool true)]) (by kernel_rfl) ?_ rfl
   clear hs; intro a hs
   refine go_end (by kernel_rfl) ?_
   replace hw := hw.up 1
   replace hw := hw.up 1
   replace hw := hw.only 2
   exact hJ1 true _ _ (hs.keep [2, 3, 28] (by kernel_rfl)) hw H
 ·replace H := ite_f H (ff (nt hb17))
  rw [hb17] at hs
  refine go_pvs 7 23 [2, 3, 28] hs (L' := [(2, .pointer (some (⟨g2, 0, none⟩ : Addr))), (3, .pointer (some (⟨g6, 0, none⟩ : Addr))), (28, .bool true)]) (by kernel_rfl) ?_ rfl
  clear hs; intro a hs
  refine go_end (by kernel_rfl) ?_
  replace hw := hw.up 1
  replace hw := hw.up 1
  replace hw := hw.only 2
  exact hJ1 true _ _ (hs.keep [2, 3, 28] (by kernel_rfl)) hw H

/-! rivet/rivetref09.Fit: function 19 -/
noncomputable def rivetref09_Fit.j5 (v96 : Int) : Option (Int ⊕ Int) := some (.inl (w64 (v96 + 1)))
noncomputable def rivetref09_Fit.j4 (v96 : Int) (v102 : Bool) : Option (Int ⊕ Int) := (if v102 = true then rivetref09_Fit.j5 v96 else some (.inr v96))
noncomputable def rivetref09_Fit.b95 (l74 : List Sapi_Sym) (t89 : ByteArray) (v96 : Int) : Option (Int ⊕ Int) := (if v96 < (l74.length : Int) then (if 0 ≤ v96 ∧ v96 < (l74.length : Int) then rivetref09_Fit.j4 v96 (Op.bytesLess ((ix eSapi_Sym.d l74 v96).Name).toList t89.toList) else none) else rivetref09_Fit.j4 v96 false)
noncomputable def rivetref09_Fit.j9 (v77 : Int) (l162 : List Sapi_Sym) : Option ((List Sapi_Sym) × Int ⊕ (List Sapi_Sym)) := some (.inl (l162, w64 (v77 + 1)))
noncomputable def rivetref09_Fit.j8 (v77 : Int) (l2 : List ByteArray) (y39 : Int) (v105 : Int) (l74 : List Sapi_Sym) (t89 : ByteArray) : Option ((List Sapi_Sym) × Int ⊕ (List Sapi_Sym)) := (if 0 ≤ v77 ∧ v77 < (l2.length : Int) then (if (w64 (y39 + 1)) ≠ 0 then (if 0 ≤ v105 ∧ v105 ≤ (l74.length : Int) then (if ([(⟨t89, w64 (4 * ((w64 (((ix eS.d l2 v77).size : Int) + v77)).tmod (w64 (y39 + 1))))⟩ : Sapi_Sym)] : List Sapi_Sym).length + (l74.drop (v105 : Int).toNat).length ≤ 5864062014805 then (if 0 ≤ v105 ∧ v105 ≤ (l74.length : Int) then (if ([] : List Sapi_Sym).length + (l74.take (v105 : Int).toNat).length ≤ 5864062014805 then (if (([] : List Sapi_Sym) ++ (l74.take (v105 : Int).toNat)).length + (([(⟨t89, w64 (4 * ((w64 (((ix eS.d l2 v77).size : Int) + v77)).tmod (w64 (y39 + 1))))⟩ : Sapi_Sym)] : List Sapi_Sym) ++ (l74.drop (v105 : Int).toNat)).length ≤ 5864062014805 then rivetref09_Fit.j9 v77 ((([] : List Sapi_Sym) ++ (l74.take (v105 : Int).toNat)) ++ (([(⟨t89, w64 (4 * ((w64 (((ix eS.d l2 v77).size : Int) + v77)).tmod (w64 (y39 + 1))))⟩ : Sapi_Sym)] : List Sapi_Sym) ++ (l74.drop (v105 : Int).toNat))) else none) else none) else none) else none) else none) else none) else none)
noncomputable def rivetref09_Fit.j7 (v77 : Int) (l74 : List Sapi_Sym) (l2 : List ByteArray) (y39 : Int) (v105 : Int) (t89 : ByteArray) (v111 : Bool) : Option ((List Sapi_Sym) × Int ⊕ (List Sapi_Sym)) := (if v111 = true then rivetref09_Fit.j9 v77 l74 else rivetref09_Fit.j8 v77 l2 y39 v105 l74 t89)
noncomputable def rivetref09_Fit.j6 (l74 : List Sapi_Sym) (v77 : Int) (l2 : List ByteArray) (y39 : Int) (t89 : ByteArray) (v105 : Int) : Option ((List Sapi_Sym) × Int ⊕ (List Sapi_Sym)) := (if v105 < (l74.length : Int) then (if 0 ≤ v105 ∧ v105 < (l74.length : Int) then rivetref09_Fit.j7 v77 l74 l2 y39 v105 t89 (((ix eSapi_Sym.d l74 v105).Name).toList == t89.toList) else none) else rivetref09_Fit.j7 v77 l74 l2 y39 v105 t89 false)
noncomputable def rivetref09_Fit.j3 (v77 : Int) (l2 : List ByteArray) (l74 : List Sapi_Sym) (y39 : Int) : Option ((List Sapi_Sym) × Int ⊕ (List Sapi_Sym)) := (if 0 ≤ v77 ∧ v77 < (l2.length : Int) then ((rivetref07_Fit (ix eS.d l2 v77)).bind fun t89 => (((loopO (fun (σ : Int) => rivetref09_Fit.b95 l74 t89 σ) 0).bind fun e => rivetref09_Fit.j6 l74 v77 l2 y39 t89 e))) else none)
noncomputable def rivetref09_Fit.j2 (v77 : Int) (l2 : List ByteArray) (l74 : List Sapi_Sym) (y39 : Int) (v81 : Bool) : Option ((List Sapi_Sym) × Int ⊕ (List Sapi_Sym)) := (if v81 = true then rivetref09_Fit.j3 v77 l2 l74 y39 else some (.inr l74))
noncomputable def rivetref09_Fit.j10 (l70 : List Int) (t42 : List Int) (l163 : List Sapi_Sym) : Option Sapi_Obj := some (⟨l70, t42, l163⟩ : Sapi_Obj)
noncomputable def rivetref09_Fit.b73 (l2 : List ByteArray) (y39 : Int) (l74 : List Sapi_Sym) (v77 : Int) : Option ((List Sapi_Sym) × Int ⊕ (List Sapi_Sym)) := (if v77 < (l2.length : Int) then rivetref09_Fit.j2 v77 l2 l74 y39 (decide (v77 < 8)) else rivetref09_Fit.j2 v77 l2 l74 y39 false)
noncomputable def rivetref09_Fit.j1 (l2 : List ByteArray) (y39 : Int) (t42 : List Int) (l70 : List Int) : Option Sapi_Obj := ((loopO (fun (σ : (List Sapi_Sym) × Int) => rivetref09_Fit.b73 l2 y39 σ.1 σ.2) (([] : List Sapi_Sym), 0)).bind fun e => rivetref09_Fit.j10 l70 t42 e)
noncomputable def rivetref09_Fit.b53 (t42 : List Int) (y39 : Int) (l54 : List Int) (v55 : Int) : Option ((List Int) × Int ⊕ (List Int)) := (if v55 < (t42.length : Int) then (if 0 ≤ v55 ∧ v55 < (t42.length : Int) then (if 0 ≤ v55 ∧ v55 < (t42.length : Int) then (if 0 ≤ (ix (eI .i64).d t42 v55) ∧ (ix (eI .i64).d t42 v55) < (l54.length : Int) then (if (wu32 (w64 ((w64 (4 * y39)) + 1))) ≠ 0 then (if 0 ≤ (ix (eI .i64).d t42 v55) ∧ (ix (eI .i64).d t42 v55) < (l54.length : Int) then some (.inl (l54.set ((ix (eI .i64).d t42 v55) : Int).toNat ((ix (eI .u32).d l54 (ix (eI .i64).d t42 v55)).tmod (wu32 (w64 ((w64 (4 * y39)) + 1)))), w64 (v55 + 1))) else none) else none) else none) else none) else none) else some (.inr l54))
noncomputable def rivetref09_Fit (l0 : List Int) (l1 : List Int) (l2 : List ByteArray) : Option Sapi_Obj := (if 0 ≤ (mnn (l0.length : Int) 40) ∧ (mnn (l0.length : Int) 40) ≤ (l0.length : Int) then (if ([] : List Int).length + (l0.take (mnn (l0.length : Int) 40 : Int).toNat).length ≤ 35184372088832 then (nm ((([] : List Int) ++ (l0.take (mnn (l0.length : Int) 40 : Int).toNat)).length : Int) fun y39 => ((rivetref08_Fit l1 y39).bind fun t42 => (((loopO (fun (σ : (List Int) × Int) => rivetref09_Fit.b53 t42 y39 σ.1 σ.2) (([] : List Int) ++ (l0.take (mnn (l0.length : Int) 40 : Int).toNat), 0)).bind fun e => rivetref09_Fit.j1 l2 y39 t42 e)))) else none) else none)
set_option maxRecDepth 100000 in
set_option maxHeartbeats 4000000 in
theorem rivetref09_Fit.calls (A0 : Option Addr) (c0 : Nat) (l0 : List Int) (A1 : Option Addr) (c1 : Nat) (l1 : List Int) (A2 : Option Addr) (c2 : Nat) (l2 : List ByteArray) (r : Sapi_Obj) (w0 : World) (hr0 : Rd w0 (eI .u32) A0 c0 l0) (hr1 : Rd w0 (eI .u8) A1 c1 l1) (hr2 : Rd w0 eS A2 c2 l2) (H : rivetref09_Fit l0 l1 l2 = some r) :
    Calls Tryd.prog 19 #[.slice A0 l0.length c0, .slice A1 l1.length c1, .slice A2 l2.length c2] w0 fun e w' => ∃ A_0_1 c_0_1, ∃ A_0_2 c_0_2, ∃ A_0_3 c_0_3, e = .returned (.agg #[.slice A_0_1 r.Words.length c_0_1, .slice A_0_2 r.Sites.length c_0_2, .slice A_0_3 r.Syms.length c_0_3]) ∧ St [] w0 w' [own 37 (eI .u32) A_0_1 c_0_1 r.Words, own 3 (eI .i64) A_0_2 c_0_2 r.Sites, own 39 eSapi_Sym A_0_3 c_0_3 r.Syms] := by
 have hw : St [] w0 w0 [] := St.nil w0
 unfold rivetref09_Fit at H
 refine go_fn Tryd.func19 rfl 134 Tryd.ntmps19 [(0, .slice A0 l0.length c0), (1, .slice A1 l1.length c1), (2, .slice A2 l2.length c2)] (by kernel_rfl) rfl ?_
 intro a hs
 refine go_seq_k fun K1 hK1 => ?_
 refine go_region ?_
 obtain ⟨g2, wd3, hx4, hw⟩ := x_allocc (P := Tryd.prog) (elem := 26) (ty := 0) (z := .agg #[.slice none 0 0, .slice none 0 0, .slice none 0 0]) (cs := [.slice none 0 0, .slice none 0 0, .slice none 0 0]) hs hw (by kernel_rfl) (by kernel_rfl)
 refine go_run hs (op := (Op.alloc 26)) (ty := 0) (dst := some 6) (g := none) (by kernel_rfl) (by kernel_rfl) (by kernel_rfl) hx4 [0, 1, 2, 6] (L' := [(0, .slice A0 l0.length c0), (1, .slice A1 l1.length c1), (2, .slice A2 l2.length c2), (6, .pointer (some (⟨g2, 0, none⟩ : Addr)))]) (by kernel_rfl) ?_
 clear hs; intro a hs
 replace hw := St.own_nil hw 37 (eI .u32)
 replace hw := St.own_nil hw 3 (eI .i64)
 replace hw := St.own_nil hw 39 eSapi_Sym
 replace hw : St [] w0 wd3 [own 39 eSapi_Sym none 0 ([] : List Sapi_Sym), own 3 (eI .i64) none 0 ([] : List Int), own 37 (eI .u32) none 0 ([] : List Int), box g2 26 [.slice none ([] : List Int).length 0, .slice none ([] : List Int).length 0, .slice none ([] : List Sapi_Sym).length 0]] := hw
 refine go_end (by kernel_rfl) ?_
 refine hK1 _ _ ?_
 refine go_seq_k fun K9 hK9 => ?_
 refine go_region ?_
 obtain ⟨Aa10, cc11, wd12, hx13, hw⟩ := n_lit0 (P := Tryd.prog) (t := 22) (ty := 22) (T := 37) hs hw (eI .u32) (by kernel_rfl) (by kernel_rfl)
 refine go_run hs (op := (Op.buildSlice 22 0 #[])) (ty := 22) (dst := some 14) (g := none) (by kernel_rfl) (by kernel_rfl) (by kernel_rfl) hx13 [0, 1, 2, 6, 14] (L' := [(0, .slice A0 l0.length c0), (1, .slice A1 l1.length c1), (2, .slice A2 l2.length c2), (6, .pointer (some (⟨g2, 0, none⟩ : Addr))), (14, .slice Aa10 ([] : List Int).length cc11)]) (by kernel_rfl) ?_
 clear hs; intro a hs
 refine go_pvs 1 5 [1, 2, 6, 14, 15, 18] hs (L' := [(1, .slice A1 l1.length c1), (2, .slice A2 l2.length c2), (6, .pointer (some (⟨g2, 0, none⟩ : Addr))), (14, .slice Aa10 ([] : List Int).length cc11), (15, .slice A0 l0.length c0), (18, .int .i64 (mnn (l0.length : Int) 40))]) (by kernel_rfl) ?_ rfl
 clear hs; intro a hs
 obtain ⟨hp15, H⟩ := ite_only H
 obtain ⟨Aa16, cc17, hx18, hc19⟩ := c_hi (P := Tryd.prog) (ty := 22) (E := (eI .u32)) (T := 37) (t := 22) (x := (Operand.tmp 15)) (y := (Operand.tmp 18)) (k := .i64) hs (by kernel_rfl) (by kernel_rfl) (hr0.old hw) (by kernel_rfl) (by kernel_rfl) hp15.1 hp15.2
 refine go_run hs (op := (Op.slice 22 (Operand.tmp 15) none (some (Operand.tmp 18)) none)) (ty := 22) (dst := some 19) (g := none) (by kernel_rfl) (by kernel_rfl) (by kernel_rfl) hx18 [1, 2, 6, 14, 19] (L' := [(1, .slice A1 l1.length c1), (2, .slice A2 l2.length c2), (6, .pointer (some (⟨g2, 0, none⟩ : Addr))), (14, .slice Aa10 ([] : List Int).length cc11), (19, .slice Aa16 (l0.take (mnn (l0.length : Int) 40 : Int).toNat).length cc17)]) (by kernel_rfl) ?_
 clear hs; intro a hs
 obtain ⟨hp21, H⟩ := ite_only H
 have hsrc26 : Src Tryd.prog (eI .u32).sz 22 (.slice Aa16 (l0.take (mnn (l0.length : Int) 40 : Int).toNat).length cc17) (l0.take (mnn (l0.length : Int) 40 : Int).toNat).length ((l0.take (mnn (l0.length : Int) 40 : Int).toNat).flatMap (eI .u32).enc) _ := (Src.of_rd (E := (eI .u32)) (e' := 37) (by kernel_rfl) (hc19 _ (hr0.old hw)))
 obtain ⟨Aa22, cc23, wd24, hx25, hw⟩ := x_append (P := Tryd.prog) (t := 22) (tx := 22) (ty := 22) (x := (Operand.tmp 14)) (y := (Operand.tmp 19)) (z := .int .u32 0) (bytes := 4) (l2 := l0.take (mnn (l0.length : Int) 40 : Int).toNat) hs hw (by kernel_rfl) (by kernel_rfl) (by kernel_rfl) (by kernel_rfl) (by kernel_rfl) hsrc26 (by omega) (by omega)
 refine go_run hs (op := (Op.call { callee := (Callee.builtin Builtin.append), args := #[(Operand.tmp 14), (Operand.tmp 19)], argTypes := #[22, 22] })) (ty := 22) (dst := some 20) (g := none) (by kernel_rfl) (by kernel_rfl) (by kernel_rfl) hx25 [1, 2, 6, 20] (L' := [(1, .slice A1 l1.length c1), (2, .slice A2 l2.length c2), (6, .pointer (some (⟨g2, 0, none⟩ : Addr))), (20, .slice Aa22 (([] : List Int) ++ (l0.take (mnn (l0.length : Int) 40 : Int).toNat)).length cc23)]) (by kernel_rfl) ?_
 clear hs; intro a hs
 refine go_pvs 7 8 [1, 2, 6, 21] hs (L' := [(1, .slice A1 l1.length c1), (2, .slice A2 l2.length c2), (6, .pointer (some (⟨g2, 0, none⟩ : Addr))), (21, .agg #[.slice Aa22 (([] : List Int) ++ (l0.take (mnn (l0.length : Int) 40 : Int).toNat)).length cc23, .slice none 0 0, .slice none 0 0])]) (by kernel_rfl) ?_ rfl
 clear hs; intro a hs
 obtain ⟨g27, wd28, hx29, hw⟩ := x_allocc (P := Tryd.prog) (elem := 26) (ty := 0) (z := .agg #[.slice none 0 0, .slice none 0 0, .slice none 0 0]) (cs := [.slice none 0 0, .slice none 0 0, .slice none 0 0]) hs hw (by kernel_rfl) (by kernel_rfl)
 refine go_run hs (op := (Op.alloc 26)) (ty := 0) (dst := some 7) (g := none) (by kernel_rfl) (by kernel_rfl) (by kernel_rfl) hx29 [1, 2, 6, 7, 21] (L' := [(1, .slice A1 l1.length c1), (2, .slice A2 l2.length c2), (6, .pointer (some (⟨g2, 0, none⟩ : Addr))), (7, .pointer (some (⟨g27, 0, none⟩ : Addr))), (21, .agg #[.slice Aa22 (([] : List Int) ++ (l0.take (mnn (l0.length : Int) 40 : Int).toNat)).length cc23, .slice none 0 0, .slice none 0 0])]) (by kernel_rfl) ?_
 clear hs; intro a hs
 replace hw := St.own_nil hw 37 (eI .u32)
 replace hw := St.own_nil hw 3 (eI .i64)
 replace hw := St.own_nil hw 39 eSapi_Sym
 replace hw : St [] w0 wd28 [own 39 eSapi_Sym none 0 ([] : List Sapi_Sym), own 3 (eI .i64) none 0 ([] : List Int), own 37 (eI .u32) none 0 ([] : List Int), box g27 26 [.slice none ([] : List Int).length 0, .slice none ([] : List Int).length 0, .slice none ([] : List Sapi_Sym).length 0], own 37 (eI .u32) Aa22 cc23 (([] : List Int) ++ (l0.take (mnn (l0.length : Int) 40 : Int).toNat)), own 39 eSapi_Sym none 0 ([] : List Sapi_Sym), own 3 (eI .i64) none 0 ([] : List Int), own 37 (eI .u32) none 0 ([] : List Int), box g2 26 [.slice none ([] : List Int).length 0, .slice none ([] : List Int).length 0, .slice none ([] : List Sapi_Sym).length 0]] := hw
 replace hw := hw.up 3
 obtain ⟨wd34, hx35, hw⟩ := x_bput (P := Tryd.prog) (ty := 0) (t := 26) (y := (Operand.tmp 7)) (z := (Operand.tmp 21)) (o := 0) (p := (⟨g27, 0, none⟩ : Addr)) (v := .agg #[.slice Aa22 (([] : List Int) ++ (l0.take (mnn (l0.length : Int) 40 : Int).toNat)).length cc23, .slice none 0 0, .slice none 0 0]) (vs := [.slice Aa22 (([] : List Int) ++ (l0.take (mnn (l0.length : Int) 40 : Int).toNat)).length cc23, .slice none 0 0, .slice none 0 0]) (cs' := [.slice Aa22 (([] : List Int) ++ (l0.take (mnn (l0.length : Int) 40 : Int).toNat)).length cc23, .slice none 0 0, .slice none 0 0]) hs hw (by kernel_rfl) rfl (by kernel_rfl) rfl (by kernel_rfl) (by kernel_rfl) (by simp [Value.oneCell']) rfl
 refine go_unit hs (op := (Op.store 26 (Operand.tmp 7) (Operand.tmp 21))) (ty := 0) (dst := none) (g := none) (by kernel_rfl) (by kernel_rfl) (by kernel_rfl) hx35 [1, 2, 6, 7] (L' := [(1, .slice A1 l1.length c1), (2, .slice A2 l2.length c2), (6, .pointer (some (⟨g2, 0, none⟩ : Addr))), (7, .pointer (some (⟨g27, 0, none⟩ : Addr)))]) (by kernel_rfl) ?_
 clear hs; intro a hs
 replace hw := St.own_nil hw 3 (eI .i64)
 replace hw := St.own_nil hw 39 eSapi_Sym
 replace hw : St [] w0 wd34 [own 39 eSapi_Sym none 0 ([] : List Sapi_Sym), own 3 (eI .i64) none 0 ([] : List Int), box g27 26 [.slice Aa22 (([] : List Int) ++ (l0.take (mnn (l0.length : Int) 40 : Int).toNat)).length cc23, .slice none ([] : List Int).length 0, .slice none ([] : List Sapi_Sym).length 0], own 39 eSapi_Sym none 0 ([] : List Sapi_Sym), own 3 (eI .i64) none 0 ([] : List Int), own 37 (eI .u32) none 0 ([] : List Int), own 37 (eI .u32) Aa22 cc23 (([] : List Int) ++ (l0.take (mnn (l0.length : Int) 40 : Int).toNat)), own 39 eSapi_Sym none 0 ([] : List Sapi_Sym), own 3 (eI .i64) none 0 ([] : List Int), own 37 (eI .u32) none 0 ([] : List Int), box g2 26 [.slice none ([] : List Int).length 0, .slice none ([] : List Int).length 0, .slice none ([] : List Sapi_Sym).length 0]] := hw
 refine go_end (by kernel_rfl) ?_
 refine hK9 _ _ ?_
 refine go_seq_k fun K38 hK38 => ?_
 refine go_region ?_
 refine go_pvs 0 1 [1, 2, 6, 7, 22] hs (L' := [(1, .slice A1 l1.length c1), (2, .slice A2 l2.length c2), (6, .pointer (some (⟨g2, 0, none⟩ : Addr))), (7, .pointer (some (⟨g27, 0, none⟩ : Addr))), (22, .pointer (some (((⟨g27, 0, none⟩ : Addr) : Addr).add 0)))]) (by kernel_rfl) ?_ rfl
 clear hs; intro a hs
 refine go_run hs (op := (Op.load 22 (Operand.tmp 22))) (ty := 22) (dst := some 23) (g := none) (by kernel_rfl) (by kernel_rfl) (by kernel_rfl) (x_bld (g := g27) (o := 0) (p := ((⟨g27, 0, none⟩ : Addr) : Addr).add 0) (v := .slice Aa22 (([] : List Int) ++ (l0.take (mnn (l0.length : Int) 40 : Int).toNat)).length cc23) (hw.up 2) (by kernel_rfl) rfl (by kernel_rfl) (by kernel_rfl)) [1, 2, 6, 7, 23] (L' := [(1, .slice A1 l1.length c1), (2, .slice A2 l2.length c2), (6, .pointer (some (⟨g2, 0, none⟩ : Addr))), (7, .pointer (some (⟨g27, 0, none⟩ : Addr))), (23, .slice Aa22 (([] : List Int) ++ (l0.take (mnn (l0.length : Int) 40 : Int).toNat)).length cc23)]) (by kernel_rfl) ?_
 clear hs; intro a hs
 refine go_pvs 2 4 [1, 2, 6, 7, 8] hs (L' := [(1, .slice A1 l1.length c1), (2, .slice A2 l2.length c2), (6, .pointer (some (⟨g2, 0, none⟩ : Addr))), (7, .pointer (some (⟨g27, 0, none⟩ : Addr))), (8, .int .i64 ((([] : List Int) ++ (l0.take (mnn (l0.length : Int) 40 : Int).toNat)).length : Int))]) (by kernel_rfl) ?_ rfl
 clear hs; intro a hs
 obtain ⟨y39, hy39, H⟩ := nm_some H
 replace hs : Slots a 134 [(1, .slice A1 l1.length c1), (2, .slice A2 l2.length c2), (6, .pointer (some (⟨g2, 0, none⟩ : Addr))), (7, .pointer (some (⟨g27, 0, none⟩ : Addr))), (8, .int .i64 y39)] := by rw [hy39]; exact hs
 refine go_end (by kernel_rfl) ?_
 refine hK38 _ _ ?_
 refine go_seq_k fun K40 hK40 => ?_
 refine go_region ?_
 refine go_pvs 0 2 [2, 6, 7, 8, 25, 26] hs (L' := [(2, .slice A2 l2.length c2), (6, .pointer (some (⟨g2, 0, none⟩ : Addr))), (7, .pointer (some (⟨g27, 0, none⟩ : Addr))), (8, .int .i64 y39), (25, .slice A1 l1.length c1), (26, .int .i64 y39)]) (by kernel_rfl) ?_ rfl
 clear hs; intro a hs
 obtain ⟨t42, hx43, H⟩ := bind_some H
 refine go_call hs (op := (Op.call { callee := (Callee.value (Operand.func 43)), args := #[(Operand.tmp 25), (Operand.tmp 26)], argTypes := #[32, 3] })) (ty := 23) (dst := some 27) (g := none) (by kernel_rfl) (by kernel_rfl) (by kernel_rfl) (f := 43) (args := #[.slice A1 l1.length c1, .int .i64 y39]) (by kernel_rfl) (rivetref08_Fit.calls A1 c1 l1 y39 t42 _ (hr1.old hw) hx43) ?_
 rintro e wd46 ⟨Aa44, cc45, rfl, hw47⟩
 refine ⟨_, rfl, ?_⟩
 replace hw := hw.call hw47
 intro a hs1
 replace hs : Slots a 134 [(2, .slice A2 l2.length c2), (6, .pointer (some (⟨g2, 0, none⟩ : Addr))), (7, .pointer (some (⟨g27, 0, none⟩ : Addr))), (8, .int .i64 y39), (27, .slice Aa44 t42.length cc45)] := hs1.keep [2, 6, 7, 8, 27] (by kernel_rfl)
 clear hs1
 refine go_pvs 3 4 [2, 6, 7, 8, 27, 28] hs (L' := [(2, .slice A2 l2.length c2), (6, .pointer (some (⟨g2, 0, none⟩ : Addr))), (7, .pointer (some (⟨g27, 0, none⟩ : Addr))), (8, .int .i64 y39), (27, .slice Aa44 t42.length cc45), (28, .pointer (some (((⟨g27, 0, none⟩ : Addr) : Addr).add 1)))]) (by kernel_rfl) ?_ rfl
 clear hs; intro a hs
 replace hw := hw.up 3
 obtain ⟨wd49, hx50, hw⟩ := x_bput (P := Tryd.prog) (ty := 0) (t := 23) (y := (Operand.tmp 28)) (z := (Operand.tmp 27)) (o := 1) (p := ((⟨g27, 0, none⟩ : Addr) : Addr).add 1) (v := .slice Aa44 t42.length cc45) (vs := [.slice Aa44 t42.length cc45]) (cs' := [.slice Aa22 (([] : List Int) ++ (l0.take (mnn (l0.length : Int) 40 : Int).toNat)).length cc23, .slice Aa44 t42.length cc45, .slice none ([] : List Sapi_Sym).length 0]) hs hw (by kernel_rfl) rfl (by kernel_rfl) rfl (by kernel_rfl) (by kernel_rfl) (by simp [Value.oneCell']) rfl
 refine go_unit hs (op := (Op.store 23 (Operand.tmp 28) (Operand.tmp 27))) (ty := 0) (dst := none) (g := none) (by kernel_rfl) (by kernel_rfl) (by kernel_rfl) hx50 [2, 6, 7, 8] (L' := [(2, .slice A2 l2.length c2), (6, .pointer (some (⟨g2, 0, none⟩ : Addr))), (7, .pointer (some (⟨g27, 0, none⟩ : Addr))), (8, .int .i64 y39)]) (by kernel_rfl) ?_
 clear hs; intro a hs
 refine go_end (by kernel_rfl) ?_
 refine hK40 _ _ ?_
 refine go_seq_k fun K51 hK51 => ?_
 refine go_seq_k fun K52 hK52 => ?_
 refine go_region ?_
 refine go_pvs 0 1 [2, 6, 7, 8, 9] hs (L' := [(2, .slice A2 l2.length c2), (6, .pointer (some (⟨g2, 0, none⟩ : Addr))), (7, .pointer (some (⟨g27, 0, none⟩ : Addr))), (8, .int .i64 y39), (9, .int .i64 0)]) (by kernel_rfl) ?_ rfl
 clear hs; intro a hs
 refine go_end (by kernel_rfl) ?_
 refine hK52 _ _ ?_
 refine wp_block ?_
 obtain ⟨e53, hl53, HX53⟩ := bind_some H
 have hJ1 : ∀ (l70 : List Int) (a : Act) (w : World), Slots a 134 [(2, .slice A2 l2.length c2), (6, .pointer (some (⟨g2, 0, none⟩ : Addr))), (7, .pointer (some (⟨g27, 0, none⟩ : Addr))), (8, .int .i64 y39)] → St [] w0 w [box g27 26 [.slice Aa22 l70.length cc23, .slice Aa44 t42.length cc45, .slice none ([] : List Sapi_Sym).length 0], own 3 (eI .i64) Aa44 cc45 t42, own 39 eSapi_Sym none 0 ([] : List Sapi_Sym), own 3 (eI .i64) none 0 ([] : List Int), own 39 eSapi_Sym none 0 ([] : List Sapi_Sym), own 3 (eI .i64) none 0 ([] : List Int), own 37 (eI .u32) none 0 ([] : List Int), own 37 (eI .u32) Aa22 cc23 l70, own 39 eSapi_Sym none 0 ([] : List Sapi_Sym), own 3 (eI .i64) none 0 ([] : List Int), own 37 (eI .u32) none 0 ([] : List Int), box g2 26 [.slice none ([] : List Int).length 0, .slice none ([] : List Int).length 0, .slice none ([] : List Sapi_Sym).length 0]] → rivetref09_Fit.j1 l2 y39 t42 l70 = some r → K51 a w := by
  intro l70 a w hs hw H
  unfold rivetref09_Fit.j1 at H
  refine hK51 _ _ ?_
  refine go_seq_k fun K71 hK71 => ?_
  refine go_seq_k fun K72 hK72 => ?_
  refine go_region ?_
  refine go_pvs 0 1 [2, 6, 7, 8, 10] hs (L' := [(2, .slice A2 l2.length c2), (6, .pointer (some (⟨g2, 0, none⟩ : Addr))), (7, .pointer (some (⟨g27, 0, none⟩ : Addr))), (8, .int .i64 y39), (10, .int .i64 0)]) (by kernel_rfl) ?_ rfl
  clear hs; intro a hs
  refine go_end (by kernel_rfl) ?_
  refine hK72 _ _ ?_
  refine wp_block ?_
  obtain ⟨e73, hl73, HX73⟩ := bind_some H
  have hJ10 : ∀ (Aa164 : Option Addr) (cc165 : Nat) (l163 : List Sapi_Sym) (a : Act) (w : World), Slots a 134 [(6, .pointer (some (⟨g2, 0, none⟩ : Addr))), (7, .pointer (some (⟨g27, 0, none⟩ : Addr)))] → St [] w0 w [box g27 26 [.slice Aa22 l70.length cc23, .slice Aa44 t42.length cc45, .slice Aa164 l163.length cc165], own 3 (eI .i64) Aa44 cc45 t42, own 39 eSapi_Sym Aa164 cc165 l163, own 3 (eI .i64) none 0 ([] : List Int), own 39 eSapi_Sym none 0 ([] : List Sapi_Sym), own 3 (eI .i64) none 0 ([] : List Int), own 37 (eI .u32) none 0 ([] : List Int), own 37 (eI .u32) Aa22 cc23 l70, own 39 eSapi_Sym none 0 ([] : List Sapi_Sym), own 3 (eI .i64) none 0 ([] : List Int), own 37 (eI .u32) none 0 ([] : List Int), box g2 26 [.slice none ([] : List Int).length 0, .slice none ([] : List Int).length 0, .slice none ([] : List Sapi_Sym).length 0]] → rivetref09_Fit.j10 l70 t42 l163 = some r → K71 a w := by
   intro Aa164 cc165 l163 a w hs hw H
   unfold rivetref09_Fit.j10 at H
   refine hK71 _ _ ?_
   refine go_seq_k fun K166 hK166 => ?_
   refine go_region ?_
   refine go_run hs (op := (Op.load 26 (Operand.tmp 7))) (ty := 26) (dst := some 133) (g := none) (by kernel_rfl) (by kernel_rfl) (by kernel_rfl) (x_blds (g := g27) (o := 0) (p := (⟨g27, 0, none⟩ : Addr)) (vs := [.slice Aa22 l70.length cc23, .slice Aa44 t42.length cc45, .slice Aa164 l163.length cc165]) (hw.up 0) (by kernel_rfl) rfl (by kernel_rfl) (by kernel_rfl) (by kernel_rfl)) [6, 133] (L' := [(6, .pointer (some (⟨g2, 0, none⟩ : Addr))), (133, .agg #[.slice Aa22 l70.length cc23, .slice Aa44 t42.length cc45, .slice Aa164 l163.length cc165])]) (by kernel_rfl) ?_
   clear hs; intro a hs
   replace hw := hw.up 11
   obtain ⟨wd167, hx168, hw⟩ := x_bput (P := Tryd.prog) (ty := 0) (t := 26) (y := (Operand.tmp 6)) (z := (Operand.tmp 133)) (o := 0) (p := (⟨g2, 0, none⟩ : Addr)) (v := .agg #[.slice Aa22 l70.length cc23, .slice Aa44 t42.length cc45, .slice Aa164 l163.length cc165]) (vs := [.slice Aa22 l70.length cc23, .slice Aa44 t42.length cc45, .slice Aa164 l163.length cc165]) (cs' := [.slice Aa22 l70.length cc23, .slice Aa44 t42.length cc45, .slice Aa164 l163.length cc165]) hs hw (by kernel_rfl) rfl (by kernel_rfl) rfl (by kernel_rfl) (by kernel_rfl) (by simp [Value.oneCell']) rfl
   refine go_unit hs (op := (Op.store 26 (Operand.tmp 6) (Operand.tmp 133))) (ty := 0) (dst := none) (g := none) (by kernel_rfl) (by kernel_rfl) (by kernel_rfl) hx168 [6] (L' := [(6, .pointer (some (⟨g2, 0, none⟩ : Addr)))]) (by kernel_rfl) ?_
   clear hs; intro a hs
   refine go_end (by kernel_rfl) ?_
   refine hK166 _ _ ?_
   refine wp_ret ?_
   obtain rfl := Option.some.inj H
   replace hw := hw.up 3
   replace hw := hw.up 3
   replace hw := hw.up 8
   refine ret1g (L := [(6, .pointer (some (⟨g2, 0, none⟩ : Addr)))]) (r1 := .cell 6 26) (v1 := .agg #[.slice Aa22 l70.length cc23, .slice Aa44 t42.length cc45, .slice Aa164 l163.length cc165]) hs (by kernel_rfl) ⟨_, (show lk 6 [(6, .pointer (some (⟨g2, 0, none⟩ : Addr)))] = some (.pointer (some (⟨g2, 0, none⟩ : Addr))) by kernel_rfl), lvb_row (hw.up 3) (by kernel_rfl) (by kernel_rfl) (by kernel_rfl)⟩ ?_
   exact ⟨Aa22, cc23, Aa44, cc45, Aa164, cc165, rfl, hw.only 3⟩
  clear H
  refine go_loop (σ := (List Sapi_Sym) × Int) (fun σ a w => ∃ Aa75, ∃ cc76, Slots a 134 [(2, .slice A2 l2.length c2), (6, .pointer (some (⟨g2, 0, none⟩ : Addr))), (7, .pointer (some (⟨g27, 0, none⟩ : Addr))), (8, .int .i64 y39), (10, .int .i64 σ.2)] ∧ St [] w0 w [box g27 26 [.slice Aa22 l70.length cc23, .slice Aa44 t42.length cc45, .slice Aa75 σ.1.length cc76], own 3 (eI .i64) Aa44 cc45 t42, own 39 eSapi_Sym Aa75 cc76 σ.1, own 3 (eI .i64) none 0 ([] : List Int), own 39 eSapi_Sym none 0 ([] : List Sapi_Sym), own 3 (eI .i64) none 0 ([] : List Int), own 37 (eI .u32) none 0 ([] : List Int), own 37 (eI .u32) Aa22 cc23 l70, own 39 eSapi_Sym none 0 ([] : List Sapi_Sym), own 3 (eI .i64) none 0 ([] : List Int), own 37 (eI .u32) none 0 ([] : List Int), box g2 26 [.slice none ([] : List Int).length 0, .slice none ([] : List Int).length 0, .slice none ([] : List Sapi_Sym).length 0]]) hl73 (by exact ⟨none, 0, hs.keep [2, 6, 7, 8, 10] (by kernel_rfl), hw⟩) ?_
  rintro ⟨l74, v77⟩ a w ⟨Aa75, cc76, hs, hw⟩ o H hr73
  replace hs : Slots a 134 [(2, .slice A2 l2.length c2), (6, .pointer (some (⟨g2, 0, none⟩ : Addr))), (7, .pointer (some (⟨g27, 0, none⟩ : Addr))), (8, .int .i64 y39), (10, .int .i64 v77)] := hs
  replace hw : St [] w0 w [box g27 26 [.slice Aa22 l70.length cc23, .slice Aa44 t42.length cc45, .slice Aa75 l74.length cc76], own 3 (eI .i64) Aa44 cc45 t42, own 39 eSapi_Sym Aa75 cc76 l74, own 3 (eI .i64) none 0 ([] : List Int), own 39 eSapi_Sym none 0 ([] : List Sapi_Sym), own 3 (eI .i64) none 0 ([] : List Int), own 37 (eI .u32) none 0 ([] : List Int), own 37 (eI .u32) Aa22 cc23 l70, own 39 eSapi_Sym none 0 ([] : List Sapi_Sym), own 3 (eI .i64) none 0 ([] : List Int), own 37 (eI .u32) none 0 ([] : List Int), box g2 26 [.slice none ([] : List Int).length 0, .slice none ([] : List Int).length 0, .slice none ([] : List Sapi_Sym).length 0]] := hw
  replace H : rivetref09_Fit.b73 l2 y39 l74 v77 = some o := H
  unfold rivetref09_Fit.b73 at H
  refine go_seq_k fun K78 hK78 => ?_
  have hJ3 : ∀ (a : Act) (w : World), Slots a 134 [(2, .slice A2 l2.length c2), (6, .pointer (some (⟨g2, 0, none⟩ : Addr))), (7, .pointer (some (⟨g27, 0, none⟩ : Addr))), (8, .int .i64 y39), (10, .int .i64 v77)] → St [] w0 w [box g27 26 [.slice Aa22 l70.length cc23, .slice Aa44 t42.length cc45, .slice Aa75 l74.length cc76], own 3 (eI .i64) Aa44 cc45 t42, own 39 eSapi_Sym Aa75 cc76 l74, own 3 (eI .i64) none 0 ([] : List Int), own 39 eSapi_Sym none 0 ([] : List Sapi_Sym), own 3 (eI .i64) none 0 ([] : List Int), own 37 (eI .u32) none 0 ([] : List Int), own 37 (eI .u32) Aa22 cc23 l70, own 39 eSapi_Sym none 0 ([] : List Sapi_Sym), own 3 (eI .i64) none 0 ([] : List Int), own 37 (eI .u32) none 0 ([] : List Int), box g2 26 [.slice none ([] : List Int).length 0, .slice none ([] : List Int).length 0, .slice none ([] : List Sapi_Sym).length 0]] → rivetref09_Fit.j3 v77 l2 l74 y39 = some o → K78 a w := by
   intro a w hs hw H
   unfold rivetref09_Fit.j3 at H
   refine hK78 _ _ ?_
   refine go_seq_k fun K84 hK84 => ?_
   have hJ9 : ∀ (Aa160 : Option Addr) (cc161 : Nat) (l162 : List Sapi_Sym) (a : Act) (w : World), Slots a 134 [(2, .slice A2 l2.length c2), (6, .pointer (some (⟨g2, 0, none⟩ : Addr))), (7, .pointer (some (⟨g27, 0, none⟩ : Addr))), (8, .int .i64 y39), (10, .int .i64 v77)] → St [] w0 w [box g27 26 [.slice Aa22 l70.length cc23, .slice Aa44 t42.length cc45, .slice Aa160 l162.length cc161], own 3 (eI .i64) Aa44 cc45 t42, own 3 (eI .i64) none 0 ([] : List Int), own 39 eSapi_Sym none 0 ([] : List Sapi_Sym), own 3 (eI .i64) none 0 ([] : List Int), own 37 (eI .u32) none 0 ([] : List Int), own 37 (eI .u32) Aa22 cc23 l70, own 39 eSapi_Sym none 0 ([] : List Sapi_Sym), own 3 (eI .i64) none 0 ([] : List Int), own 37 (eI .u32) none 0 ([] : List Int), box g2 26 [.slice none ([] : List Int).length 0, .slice none ([] : List Int).length 0, .slice none ([] : List Sapi_Sym).length 0], own 39 eSapi_Sym Aa160 cc161 l162] → rivetref09_Fit.j9 v77 l162 = some o → K84 a w := by
    intro Aa160 cc161 l162 a w hs hw H
    unfold rivetref09_Fit.j9 at H
    refine hK84 _ _ ?_
    refine go_region ?_
    refine go_pvs 0 3 [2, 6, 7, 8, 10] hs (L' := [(2, .slice A2 l2.length c2), (6, .pointer (some (⟨g2, 0, none⟩ : Addr))), (7, .pointer (some (⟨g27, 0, none⟩ : Addr))), (8, .int .i64 y39), (10, .int .i64 (w64 (v77 + 1)))]) (by kernel_rfl) ?_ rfl
    clear hs; intro a hs
    refine go_end (by kernel_rfl) ?_
    replace hw := hw.up 10
    replace hw := hw.up 10
    replace hw := hw.up 10
    replace hw := hw.up 10
    replace hw := hw.up 10
    replace hw := hw.up 10
    replace hw := hw.up 10
    replace hw := hw.up 10
    replace hw := hw.up 10
    replace hw := hw.up 11
    replace hw := hw.up 11
    replace hw := hw.up 11
    replace hw := hw.only 12
    exact round_end (l162, w64 (v77 + 1)) (Option.some.inj H).symm ⟨Aa160, cc161, hs.keep [2, 6, 7, 8, 10] (by kernel_rfl), hw⟩
   refine wp_block ?_
   refine go_seq_k fun K85 hK85 => ?_
   refine go_region ?_
   refine go_pvs 0 2 [2, 6, 7, 8, 10, 68, 69] hs (L' := [(2, .slice A2 l2.length c2), (6, .pointer (some (⟨g2, 0, none⟩ : Addr))), (7, .pointer (some (⟨g27, 0, none⟩ : Addr))), (8, .int .i64 y39), (10, .int .i64 v77), (68, .slice A2 l2.length c2), (69, .int .i64 v77)]) (by kernel_rfl) ?_ rfl
   clear hs; intro a hs
   obtain ⟨hp86, H⟩ := ite_only H
   obtain ⟨ad87, rfl⟩ := (hr2.old hw).some hp86.1 hp86.2
   refine go_run hs (op := (Op.indexAddr 33 (Operand.tmp 68) (Operand.tmp 69))) (ty := 0) (dst := some 70) (g := none) (by kernel_rfl) (by kernel_rfl) (by kernel_rfl) (x_idx (T := 9) (sz := 1) (a := ad87) (n := l2.length) (cap := c2) (k := .i64) (i := v77) (by kernel_rfl) (by kernel_rfl) (by kernel_rfl) (by kernel_rfl) hp86.1 hp86.2) [2, 6, 7, 8, 10, 70] (L' := [(2, .slice (some ad87) l2.length c2), (6, .pointer (some (⟨g2, 0, none⟩ : Addr))), (7, .pointer (some (⟨g27, 0, none⟩ : Addr))), (8, .int .i64 y39), (10, .int .i64 v77), (70, .pointer (some (ad87.add (v77.toNat * 1))))]) (by kernel_rfl) ?_
   clear hs; intro a hs
   refine go_run hs (op := (Op.load 9 (Operand.tmp 70))) (ty := 9) (dst := some 71) (g := none) (by kernel_rfl) (by kernel_rfl) (by kernel_rfl) (x_ld (E := eS) (off := 0) (p := ad87.add (v77.toNat * 1)) (v := .string (ix eS.d l2 v77)) (hr2.old hw) hp86.1 hp86.2 (by kernel_rfl) rfl (by kernel_rfl) (by kernel_rfl)) [2, 6, 7, 8, 10, 71] (L' := [(2, .slice (some ad87) l2.length c2), (6, .pointer (some (⟨g2, 0, none⟩ : Addr))), (7, .pointer (some (⟨g27, 0, none⟩ : Addr))), (8, .int .i64 y39), (10, .int .i64 v77), (71, .string (ix eS.d l2 v77))]) (by kernel_rfl) ?_
   clear hs; intro a hs
   obtain ⟨t89, hx90, H⟩ := bind_some H
   refine go_call hs (op := (Op.call { callee := (Callee.value (Operand.func 44)), args := #[(Operand.tmp 71)], argTypes := #[9] })) (ty := 9) (dst := some 72) (g := none) (by kernel_rfl) (by kernel_rfl) (by kernel_rfl) (f := 44) (args := #[.string (ix eS.d l2 v77)]) (by kernel_rfl) (rivetref07_Fit.calls (ix eS.d l2 v77) t89 _ hx90) ?_
   rintro e wd91 ⟨rfl, hw92⟩
   refine ⟨_, rfl, ?_⟩
   replace hw := hw.call hw92
   intro a hs1
   replace hs : Slots a 134 [(2, .slice (some ad87) l2.length c2), (6, .pointer (some (⟨g2, 0, none⟩ : Addr))), (7, .pointer (some (⟨g27, 0, none⟩ : Addr))), (8, .int .i64 y39), (10, .int .i64 v77), (72, .string t89)] := hs1.keep [2, 6, 7, 8, 10, 72] (by kernel_rfl)
   clear hs1
   refine go_pvs 5 6 [2, 6, 7, 8, 10, 11] hs (L' := [(2, .slice (some ad87) l2.length c2), (6, .pointer (some (⟨g2, 0, none⟩ : Addr))), (7, .pointer (some (⟨g27, 0, none⟩ : Addr))), (8, .int .i64 y39), (10, .int .i64 v77), (11, .string t89)]) (by kernel_rfl) ?_ rfl
   clear hs; intro a hs
   refine go_end (by kernel_rfl) ?_
   refine hK85 _ _ ?_
   refine go_seq_k fun K93 hK93 => ?_
   refine go_region ?_
   refine go_pvs 0 1 [2, 6, 7, 8, 10, 11, 12] hs (L' := [(2, .slice (some ad87) l2.length c2), (6, .pointer (some (⟨g2, 0, none⟩ : Addr))), (7, .pointer (some (⟨g27, 0, none⟩ : Addr))), (8, .int .i64 y39), (10, .int .i64 v77), (11, .string t89), (12, .int .i64 0)]) (by kernel_rfl) ?_ rfl
   clear hs; intro a hs
   refine go_end (by kernel_rfl) ?_
   refine hK93 _ _ ?_
   refine go_seq_k fun K94 hK94 => ?_
   refine wp_block ?_
   obtain ⟨e95, hl95, HX95⟩ := bind_some H
   have hJ6 : ∀ (v105 : Int) (a : Act) (w : World), Slots a 134 [(2, .slice (some ad87) l2.length c2), (6, .pointer (some (⟨g2, 0, none⟩ : Addr))), (7, .pointer (some (⟨g27, 0, none⟩ : Addr))), (8, .int .i64 y39), (10, .int .i64 v77), (11, .string t89), (12, .int .i64 v105)] → St [] w0 w [box g27 26 [.slice Aa22 l70.length cc23, .slice Aa44 t42.length cc45, .slice Aa75 l74.length cc76], own 3 (eI .i64) Aa44 cc45 t42, own 39 eSapi_Sym Aa75 cc76 l74, own 3 (eI .i64) none 0 ([] : List Int), own 39 eSapi_Sym none 0 ([] : List Sapi_Sym), own 3 (eI .i64) none 0 ([] : List Int), own 37 (eI .u32) none 0 ([] : List Int), own 37 (eI .u32) Aa22 cc23 l70, own 39 eSapi_Sym none 0 ([] : List Sapi_Sym), own 3 (eI .i64) none 0 ([] : List Int), own 37 (eI .u32) none 0 ([] : List Int), box g2 26 [.slice none ([] : List Int).length 0, .slice none ([] : List Int).length 0, .slice none ([] : List Sapi_Sym).length 0]] → rivetref09_Fit.j6 l74 v77 l2 y39 t89 v105 = some o → K94 a w := by
    intro v105 a w hs hw H
    unfold rivetref09_Fit.j6 at H
    refine hK94 _ _ ?_
    refine go_seq_k fun K106 hK106 => ?_
    have hJ8 : ∀ (a : Act) (w : World), Slots a 134 [(2, .slice (some ad87) l2.length c2), (6, .pointer (some (⟨g2, 0, none⟩ : Addr))), (7, .pointer (some (⟨g27, 0, none⟩ : Addr))), (8, .int .i64 y39), (10, .int .i64 v77), (11, .string t89), (12, .int .i64 v105)] → St [] w0 w [box g27 26 [.slice Aa22 l70.length cc23, .slice Aa44 t42.length cc45, .slice Aa75 l74.length cc76], own 3 (eI .i64) Aa44 cc45 t42, own 39 eSapi_Sym Aa75 cc76 l74, own 3 (eI .i64) none 0 ([] : List Int), own 39 eSapi_Sym none 0 ([] : List Sapi_Sym), own 3 (eI .i64) none 0 ([] : List Int), own 37 (eI .u32) none 0 ([] : List Int), own 37 (eI .u32) Aa22 cc23 l70, own 39 eSapi_Sym none 0 ([] : List Sapi_Sym), own 3 (eI .i64) none 0 ([] : List Int), own 37 (eI .u32) none 0 ([] : List Int), box g2 26 [.slice none ([] : List Int).length 0, .slice none ([] : List Int).length 0, .slice none ([] : List Sapi_Sym).length 0]] → rivetref09_Fit.j8 v77 l2 y39 v105 l74 t89 = some o → K106 a w := by
     intro a w hs hw H
     unfold rivetref09_Fit.j8 at H
     refine hK106 _ _ ?_
     refine go_seq_k fun K114 hK114 => ?_
     refine d_region [18] [(true, [0, 1, 2, 3, 4, 5, 6, 7, 8, 9, 10, 11, 12, 14, 15, 16, 17], 13), (true, [], 18)] [19] (by kernel_rfl) (by kernel_rfl) (fun c a d v w h => by cases d <;> exact h) ?_
     refine d_seg ?_
     refine c_pvs [0, 1, 2] [3, 4, 5, 6, 7, 8, 9, 10, 11, 12, 14, 15, 16, 17] [2, 6, 7, 8, 10, 12, 105, 106, 107] hs (L' := [(2, .slice (some ad87) l2.length c2), (6, .pointer (some (⟨g2, 0, none⟩ : Addr))), (7, .pointer (some (⟨g27, 0, none⟩ : Addr))), (8, .int .i64 y39), (10, .int .i64 v77), (12, .int .i64 v105), (105, .string t89), (106, .slice (some ad87) l2.length c2), (107, .int .i64 v77)]) (by kernel_rfl) ?_ (by kernel_rfl)
     clear hs; intro a hs
     obtain ⟨hp115, H⟩ := ite_only H
     refine d_run hs (op := (Op.indexAddr 33 (Operand.tmp 106) (Operand.tmp 107))) (ty := 0) (dst := some 108) (g := none) (by kernel_rfl) (by kernel_rfl) (by kernel_rfl) (fun wx hbx => (x_idx (T := 9) (sz := 1) (a := ad87) (n := l2.length) (cap := c2) (k := .i64) (i := v77) (by kernel_rfl) (by kernel_rfl) (by kernel_rfl) (by kernel_rfl) hp115.1 hp115.2)) [2, 6, 7, 8, 10, 12, 105, 108] (L' := [(2, .slice (some ad87) l2.length c2), (6, .pointer (some (⟨g2, 0, none⟩ : Addr))), (7, .pointer (some (⟨g27, 0, none⟩ : Addr))), (8, .int .i64 y39), (10, .int .i64 v77), (12, .int .i64 v105), (105, .string t89), (108, .pointer (some (ad87.add (v77.toNat * 1))))]) (by kernel_rfl) ?_
     clear hs; intro a hs
     refine d_run hs (op := (Op.load 9 (Operand.tmp 108))) (ty := 9) (dst := some 109) (g := none) (by kernel_rfl) (by kernel_rfl) (by kernel_rfl) (fun wx hbx => (x_ld (E := eS) (off := 0) (p := ad87.add (v77.toNat * 1)) (v := .string (ix eS.d l2 v77)) (Rd.bn (hr2.old hw) hbx) hp115.1 hp115.2 (by kernel_rfl) rfl (by kernel_rfl) (by kernel_rfl))) [2, 6, 7, 8, 10, 12, 105, 109] (L' := [(2, .slice (some ad87) l2.length c2), (6, .pointer (some (⟨g2, 0, none⟩ : Addr))), (7, .pointer (some (⟨g27, 0, none⟩ : Addr))), (8, .int .i64 y39), (10, .int .i64 v77), (12, .int .i64 v105), (105, .string t89), (109, .string (ix eS.d l2 v77))]) (by kernel_rfl) ?_
     clear hs; intro a hs
     refine c_pvs [5, 6, 7, 8, 9] [10, 11, 12, 14, 15, 16, 17] [2, 6, 7, 8, 10, 12, 105, 112, 114] hs (L' := [(2, .slice (some ad87) l2.length c2), (6, .pointer (some (⟨g2, 0, none⟩ : Addr))), (7, .pointer (some (⟨g27, 0, none⟩ : Addr))), (8, .int .i64 y39), (10, .int .i64 v77), (12, .int .i64 v105), (105, .string t89), (112, .int .i64 (w64 (((ix eS.d l2 v77).size : Int) + v77))), (114, .int .i64 (w64 (y39 + 1)))]) (by kernel_rfl) ?_ (by kernel_rfl)
     clear hs; intro a hs
     obtain ⟨hp116, H⟩ := ite_only H
     refine d_run hs (op := (Op.binOp BinOp.rem 3 (Operand.tmp 112) (Operand.tmp 114) 3)) (ty := 3) (dst := some 115) (g := none) (by kernel_rfl) (by kernel_rfl) (by kernel_rfl) (fun wx hbx => (x_rem (k := .i64) (m := w64 (((ix eS.d l2 v77).size : Int) + v77)) (n := w64 (y39 + 1)) (by kernel_rfl) (by kernel_rfl) hp116)) [2, 6, 7, 8, 10, 12, 105, 115] (L' := [(2, .slice (some ad87) l2.length c2), (6, .pointer (some (⟨g2, 0, none⟩ : Addr))), (7, .pointer (some (⟨g27, 0, none⟩ : Addr))), (8, .int .i64 y39), (10, .int .i64 v77), (12, .int .i64 v105), (105, .string t89), (115, .int .i64 ((w64 (((ix eS.d l2 v77).size : Int) + v77)).tmod (w64 (y39 + 1))))]) (by kernel_rfl) ?_
     clear hs; intro a hs
     refine c_pvs [11, 12, 14] [15, 16, 17] [2, 6, 7, 8, 10, 12, 117, 119] hs (L' := [(2, .slice (some ad87) l2.length c2), (6, .pointer (some (⟨g2, 0, none⟩ : Addr))), (7, .pointer (some (⟨g27, 0, none⟩ : Addr))), (8, .int .i64 y39), (10, .int .i64 v77), (12, .int .i64 v105), (117, .agg #[.string t89, .int .i64 (w64 (4 * ((w64 (((ix eS.d l2 v77).size : Int) + v77)).tmod (w64 (y39 + 1)))))]), (119, .pointer (some (((⟨g27, 0, none⟩ : Addr) : Addr).add 2)))]) (by kernel_rfl) ?_ (by kernel_rfl)
     clear hs; intro a hs
     refine d_run hs (op := (Op.load 24 (Operand.tmp 119))) (ty := 24) (dst := some 120) (g := none) (by kernel_rfl) (by kernel_rfl) (by kernel_rfl) (fun wx hbx => (x_bldD (g := g27) (o := 2) (p := ((⟨g27, 0, none⟩ : Addr) : Addr).add 2) (v := .slice Aa75 l74.length cc76) (hw.up 0) hbx (by kernel_rfl) rfl (by kernel_rfl) (by kernel_rfl))) [2, 6, 7, 8, 10, 12, 117, 120] (L' := [(2, .slice (some ad87) l2.length c2), (6, .pointer (some (⟨g2, 0, none⟩ : Addr))), (7, .pointer (some (⟨g27, 0, none⟩ : Addr))), (8, .int .i64 y39), (10, .int .i64 v77), (12, .int .i64 v105), (117, .agg #[.string t89, .int .i64 (w64 (4 * ((w64 (((ix eS.d l2 v77).size : Int) + v77)).tmod (w64 (y39 + 1)))))]), (120, .slice Aa75 l74.length cc76)]) (by kernel_rfl) ?_
     clear hs; intro a hs
     refine c_pvs [16] [17] [2, 6, 7, 8, 10, 12, 117, 120, 121] hs (L' := [(2, .slice (some ad87) l2.length c2), (6, .pointer (some (⟨g2, 0, none⟩ : Addr))), (7, .pointer (some (⟨g27, 0, none⟩ : Addr))), (8, .int .i64 y39), (10, .int .i64 v77), (12, .int .i64 v105), (117, .agg #[.string t89, .int .i64 (w64 (4 * ((w64 (((ix eS.d l2 v77).size : Int) + v77)).tmod (w64 (y39 + 1)))))]), (120, .slice Aa75 l74.length cc76), (121, .int .i64 v105)]) (by kernel_rfl) ?_ (by kernel_rfl)
     clear hs; intro a hs
     obtain ⟨hp117, H⟩ := ite_only H
     obtain ⟨Aa118, cc119, hx120, hc121⟩ := w_lo (P := Tryd.prog) (ty := 24) (E := eSapi_Sym) (T := 39) (t := 24) (x := (Operand.tmp 120)) (y := (Operand.tmp 121)) (k := .i64) hs (by kernel_rfl) (by kernel_rfl) (Rd.of_own (hw.up 2)) (by kernel_rfl) (by kernel_rfl) hp117.1 hp117.2
     refine d_run hs (op := (Op.slice 24 (Operand.tmp 120) (some (Operand.tmp 121)) none none)) (ty := 24) (dst := some 122) (g := none) (by kernel_rfl) (by kernel_rfl) (by kernel_rfl) (fun wx hbx => (hx120 wx)) [2, 6, 7, 8, 10, 12, 117, 122] (L' := [(2, .slice (some ad87) l2.length c2), (6, .pointer (some (⟨g2, 0, none⟩ : Addr))), (7, .pointer (some (⟨g27, 0, none⟩ : Addr))), (8, .int .i64 y39), (10, .int .i64 v77), (12, .int .i64 v105), (117, .agg #[.string t89, .int .i64 (w64 (4 * ((w64 (((ix eS.d l2 v77).size : Int) + v77)).tmod (w64 (y39 + 1)))))]), (122, .slice Aa118 (l74.drop (v105 : Int).toNat).length cc119)]) (by kernel_rfl) ?_
     clear hs; intro a hs
     refine c_end ?_
     intro wq hbq
     replace hw := hw.behind hbq
     have hbc := Below.refl wq.heap.size wq
     obtain ⟨Aa123, cc124, wd125, hx126, hwn⟩ := n_lit (P := Tryd.prog) (t := 24) (ty := 24) (T := 39) (len := 1) (parts := #[(0, (Operand.tmp 117))]) (z := .agg #[.string (⟨#[]⟩ : ByteArray), .int .i64 0]) (bytes := 24) (cells := #[.string t89, .int .i64 (w64 (4 * ((w64 (((ix eS.d l2 v77).size : Int) + v77)).tmod (w64 (y39 + 1)))))]) hs (nil_of hw) eSapi_Sym ([(⟨t89, w64 (4 * ((w64 (((ix eS.d l2 v77).size : Int) + v77)).tmod (w64 (y39 + 1))))⟩ : Sapi_Sym)] : List Sapi_Sym) (by kernel_rfl) (by kernel_rfl) (by kernel_rfl) (by kernel_rfl) (by kernel_rfl) (by kernel_rfl) (by kernel_rfl)
     replace hbc := hwn.below
     replace hw := hw.call hwn
     clear hwn
     refine p_run hs (op := (Op.buildSlice 24 1 #[(0, (Operand.tmp 117))])) (ty := 24) (dst := some 118) (g := none) (by kernel_rfl) (by kernel_rfl) (by kernel_rfl) hx126 [2, 6, 7, 8, 10, 12, 118, 122] (L' := [(2, .slice (some ad87) l2.length c2), (6, .pointer (some (⟨g2, 0, none⟩ : Addr))), (7, .pointer (some (⟨g27, 0, none⟩ : Addr))), (8, .int .i64 y39), (10, .int .i64 v77), (12, .int .i64 v105), (118, .slice Aa123 ([(⟨t89, w64 (4 * ((w64 (((ix eS.d l2 v77).size : Int) + v77)).tmod (w64 (y39 + 1))))⟩ : Sapi_Sym)] : List Sapi_Sym).length cc124), (122, .slice Aa118 (l74.drop (v105 : Int).toNat).length cc119)]) (by kernel_rfl) ?_
     clear hs; intro a hs
     refine c_done ⟨.inr (bn_of hbq hbc), ?_⟩
     clear hbc hbq
     refine d_seg ?_
     refine c_end ?_
     intro wq hbq
     replace hw := hw.behind hbq
     obtain ⟨hp128, H⟩ := ite_only H
     have hsrc133 : Src Tryd.prog eSapi_Sym.sz 24 (.slice Aa118 (l74.drop (v105 : Int).toNat).length cc119) (l74.drop (v105 : Int).toNat).length ((l74.drop (v105 : Int).toNat).flatMap eSapi_Sym.enc) _ := (Src.of_rd (E := eSapi_Sym) (e' := 39) (by kernel_rfl) (hc121 _ (Rd.of_own (hw.up 3))))
     obtain ⟨Aa129, cc130, wd131, hx132, hw⟩ := x_append (P := Tryd.prog) (t := 24) (tx := 24) (ty := 24) (x := (Operand.tmp 118)) (y := (Operand.tmp 122)) (z := .agg #[.string (⟨#[]⟩ : ByteArray), .int .i64 0]) (bytes := 24) (l2 := l74.drop (v105 : Int).toNat) hs hw (by kernel_rfl) (by kernel_rfl) (by kernel_rfl) (by kernel_rfl) (by kernel_rfl) hsrc133 (by omega) (by omega)
     refine p_run hs (op := (Op.call { callee := (Callee.builtin Builtin.append), args := #[(Operand.tmp 118), (Operand.tmp 122)], argTypes := #[24, 24] })) (ty := 24) (dst := some 123) (g := none) (by kernel_rfl) (by kernel_rfl) (by kernel_rfl) hx132 [2, 6, 7, 8, 10, 12, 123] (L' := [(2, .slice (some ad87) l2.length c2), (6, .pointer (some (⟨g2, 0, none⟩ : Addr))), (7, .pointer (some (⟨g27, 0, none⟩ : Addr))), (8, .int .i64 y39), (10, .int .i64 v77), (12, .int .i64 v105), (123, .slice Aa129 (([(⟨t89, w64 (4 * ((w64 (((ix eS.d l2 v77).size : Int) + v77)).tmod (w64 (y39 + 1))))⟩ : Sapi_Sym)] : List Sapi_Sym) ++ (l74.drop (v105 : Int).toNat)).length cc130)]) (by kernel_rfl) ?_
     clear hs; intro a hs
     refine c_done ⟨.inl (by kernel_rfl), ?_⟩
     clear hbq
     refine d_last ?_
     refine c_pvs [19] [] [2, 6, 7, 8, 10, 12, 13] hs (L' := [(2, .slice (some ad87) l2.length c2), (6, .pointer (some (⟨g2, 0, none⟩ : Addr))), (7, .pointer (some (⟨g27, 0, none⟩ : Addr))), (8, .int .i64 y39), (10, .int .i64 v77), (12, .int .i64 v105), (13, .slice Aa129 (([(⟨t89, w64 (4 * ((w64 (((ix eS.d l2 v77).size : Int) + v77)).tmod (w64 (y39 + 1))))⟩ : Sapi_Sym)] : List Sapi_Sym) ++ (l74.drop (v105 : Int).toNat)).length cc130)]) (by kernel_rfl) ?_ (by kernel_rfl)
     clear hs; intro a hs
     refine c_end ?_
     intro wq hbq
     replace hw := hw.behind hbq
     refine hK114 _ _ ?_
     refine go_region ?_
     obtain ⟨Aa134, cc135, wd136, hx137, hw⟩ := n_lit0 (P := Tryd.prog) (t := 24) (ty := 24) (T := 39) hs hw eSapi_Sym (by kernel_rfl) (by kernel_rfl)
     refine go_run hs (op := (Op.buildSlice 24 0 #[])) (ty := 24) (dst := some 124) (g := none) (by kernel_rfl) (by kernel_rfl) (by kernel_rfl) hx137 [2, 6, 7, 8, 10, 12, 13, 124] (L' := [(2, .slice (some ad87) l2.length c2), (6, .pointer (some (⟨g2, 0, none⟩ : Addr))), (7, .pointer (some (⟨g27, 0, none⟩ : Addr))), (8, .int .i64 y39), (10, .int .i64 v77), (12, .int .i64 v105), (13, .slice Aa129 (([(⟨t89, w64 (4 * ((w64 (((ix eS.d l2 v77).size : Int) + v77)).tmod (w64 (y39 + 1))))⟩ : Sapi_Sym)] : List Sapi_Sym) ++ (l74.drop (v105 : Int).toNat)).length cc130), (124, .slice Aa134 ([] : List Sapi_Sym).length cc135)]) (by kernel_rfl) ?_
     clear hs; intro a hs
     refine go_pvs 1 2 [2, 6, 7, 8, 10, 12, 13, 124, 125] hs (L' := [(2, .slice (some ad87) l2.length c2), (6, .pointer (some (⟨g2, 0, none⟩ : Addr))), (7, .pointer (some (⟨g27, 0, none⟩ : Addr))), (8, .int .i64 y39), (10, .int .i64 v77), (12, .int .i64 v105), (13, .slice Aa129 (([(⟨t89, w64 (4 * ((w64 (((ix eS.d l2 v77).size : Int) + v77)).tmod (w64 (y39 + 1))))⟩ : Sapi_Sym)] : List Sapi_Sym) ++ (l74.drop (v105 : Int).toNat)).length cc130), (124, .slice Aa134 ([] : List Sapi_Sym).length cc135), (125, .pointer (some (((⟨g27, 0, none⟩ : Addr) : Addr).add 2)))]) (by kernel_rfl) ?_ rfl
     clear hs; intro a hs
     refine go_run hs (op := (Op.load 24 (Operand.tmp 125))) (ty := 24) (dst := some 126) (g := none) (by kernel_rfl) (by kernel_rfl) (by kernel_rfl) (x_bld (g := g27) (o := 2) (p := ((⟨g27, 0, none⟩ : Addr) : Addr).add 2) (v := .slice Aa75 l74.length cc76) (hw.up 2) (by kernel_rfl) rfl (by kernel_rfl) (by kernel_rfl)) [2, 6, 7, 8, 10, 12, 13, 124, 126] (L' := [(2, .slice (some ad87) l2.length c2), (6, .pointer (some (⟨g2, 0, none⟩ : Addr))), (7, .pointer (some (⟨g27, 0, none⟩ : Addr))), (8, .int .i64 y39), (10, .int .i64 v77), (12, .int .i64 v105), (13, .slice Aa129 (([(⟨t89, w64 (4 * ((w64 (((ix eS.d l2 v77).size : Int) + v77)).tmod (w64 (y39 + 1))))⟩ : Sapi_Sym)] : List Sapi_Sym) ++ (l74.drop (v105 : Int).toNat)).length cc130), (124, .slice Aa134 ([] : List Sapi_Sym).length cc135), (126, .slice Aa75 l74.length cc76)]) (by kernel_rfl) ?_
     clear hs; intro a hs
     refine go_pvs 3 4 [2, 6, 7, 8, 10, 13, 124, 126, 127] hs (L' := [(2, .slice (some ad87) l2.length c2), (6, .pointer (some (⟨g2, 0, none⟩ : Addr))), (7, .pointer (some (⟨g27, 0, none⟩ : Addr))), (8, .int .i64 y39), (10, .int .i64 v77), (13, .slice Aa129 (([(⟨t89, w64 (4 * ((w64 (((ix eS.d l2 v77).size : Int) + v77)).tmod (w64 (y39 + 1))))⟩ : Sapi_Sym)] : List Sapi_Sym) ++ (l74.drop (v105 : Int).toNat)).length cc130), (124, .slice Aa134 ([] : List Sapi_Sym).length cc135), (126, .slice Aa75 l74.length cc76), (127, .int .i64 v105)]) (by kernel_rfl) ?_ rfl
     clear hs; intro a hs
     obtain ⟨hp139, H⟩ := ite_only H
     obtain ⟨Aa140, cc141, hx142, hc143⟩ := c_hi (P := Tryd.prog) (ty := 24) (E := eSapi_Sym) (T := 39) (t := 24) (x := (Operand.tmp 126)) (y := (Operand.tmp 127)) (k := .i64) hs (by kernel_rfl) (by kernel_rfl) (Rd.of_own (hw.up 4)) (by kernel_rfl) (by kernel_rfl) hp139.1 hp139.2
     refine go_run hs (op := (Op.slice 24 (Operand.tmp 126) none (some (Operand.tmp 127)) none)) (ty := 24) (dst := some 128) (g := none) (by kernel_rfl) (by kernel_rfl) (by kernel_rfl) hx142 [2, 6, 7, 8, 10, 13, 124, 128] (L' := [(2, .slice (some ad87) l2.length c2), (6, .pointer (some (⟨g2, 0, none⟩ : Addr))), (7, .pointer (some (⟨g27, 0, none⟩ : Addr))), (8, .int .i64 y39), (10, .int .i64 v77), (13, .slice Aa129 (([(⟨t89, w64 (4 * ((w64 (((ix eS.d l2 v77).size : Int) + v77)).tmod (w64 (y39 + 1))))⟩ : Sapi_Sym)] : List Sapi_Sym) ++ (l74.drop (v105 : Int).toNat)).length cc130), (124, .slice Aa134 ([] : List Sapi_Sym).length cc135), (128, .slice Aa140 (l74.take (v105 : Int).toNat).length cc141)]) (by kernel_rfl) ?_
     clear hs; intro a hs
     obtain ⟨hp145, H⟩ := ite_only H
     have hsrc150 : Src Tryd.prog eSapi_Sym.sz 24 (.slice Aa140 (l74.take (v105 : Int).toNat).length cc141) (l74.take (v105 : Int).toNat).length ((l74.take (v105 : Int).toNat).flatMap eSapi_Sym.enc) _ := (Src.of_rd (E := eSapi_Sym) (e' := 39) (by kernel_rfl) (hc143 _ (Rd.of_own (hw.up 4))))
     obtain ⟨Aa146, cc147, wd148, hx149, hw⟩ := x_append (P := Tryd.prog) (t := 24) (tx := 24) (ty := 24) (x := (Operand.tmp 124)) (y := (Operand.tmp 128)) (z := .agg #[.string (⟨#[]⟩ : ByteArray), .int .i64 0]) (bytes := 24) (l2 := l74.take (v105 : Int).toNat) hs hw (by kernel_rfl) (by kernel_rfl) (by kernel_rfl) (by kernel_rfl) (by kernel_rfl) hsrc150 (by omega) (by omega)
     refine go_run hs (op := (Op.call { callee := (Callee.builtin Builtin.append), args := #[(Operand.tmp 124), (Operand.tmp 128)], argTypes := #[24, 24] })) (ty := 24) (dst := some 129) (g := none) (by kernel_rfl) (by kernel_rfl) (by kernel_rfl) hx149 [2, 6, 7, 8, 10, 13, 129] (L' := [(2, .slice (some ad87) l2.length c2), (6, .pointer (some (⟨g2, 0, none⟩ : Addr))), (7, .pointer (some (⟨g27, 0, none⟩ : Addr))), (8, .int .i64 y39), (10, .int .i64 v77), (13, .slice Aa129 (([(⟨t89, w64 (4 * ((w64 (((ix eS.d l2 v77).size : Int) + v77)).tmod (w64 (y39 + 1))))⟩ : Sapi_Sym)] : List Sapi_Sym) ++ (l74.drop (v105 : Int).toNat)).length cc130), (129, .slice Aa146 (([] : List Sapi_Sym) ++ (l74.take (v105 : Int).toNat)).length cc147)]) (by kernel_rfl) ?_
     clear hs; intro a hs
     refine go_pvs 6 7 [2, 6, 7, 8, 10, 129, 130] hs (L' := [(2, .slice (some ad87) l2.length c2), (6, .pointer (some (⟨g2, 0, none⟩ : Addr))), (7, .pointer (some (⟨g27, 0, none⟩ : Addr))), (8, .int .i64 y39), (10, .int .i64 v77), (129, .slice Aa146 (([] : List Sapi_Sym) ++ (l74.take (v105 : Int).toNat)).length cc147), (130, .slice Aa129 (([(⟨t89, w64 (4 * ((w64 (((ix eS.d l2 v77).size : Int) + v77)).tmod (w64 (y39 + 1))))⟩ : Sapi_Sym)] : List Sapi_Sym) ++ (l74.drop (v105 : Int).toNat)).length cc130)]) (by kernel_rfl) ?_ rfl
     clear hs; intro a hs
     obtain ⟨hp151, H⟩ := ite_only H
     have hsrc156 : Src Tryd.prog eSapi_Sym.sz 24 (.slice Aa129 (([(⟨t89, w64 (4 * ((w64 (((ix eS.d l2 v77).size : Int) + v77)).tmod (w64 (y39 + 1))))⟩ : Sapi_Sym)] : List Sapi_Sym) ++ (l74.drop (v105 : Int).toNat)).length cc130) (([(⟨t89, w64 (4 * ((w64 (((ix eS.d l2 v77).size : Int) + v77)).tmod (w64 (y39 + 1))))⟩ : Sapi_Sym)] : List Sapi_Sym) ++ (l74.drop (v105 : Int).toNat)).length ((([(⟨t89, w64 (4 * ((w64 (((ix eS.d l2 v77).size : Int) + v77)).tmod (w64 (y39 + 1))))⟩ : Sapi_Sym)] : List Sapi_Sym) ++ (l74.drop (v105 : Int).toNat)).flatMap eSapi_Sym.enc) _ := (Src.of_rd (E := eSapi_Sym) (e' := 39) (by kernel_rfl) (Rd.of_own (hw.up 1)))
     obtain ⟨Aa152, cc153, wd154, hx155, hw⟩ := x_append (P := Tryd.prog) (t := 24) (tx := 24) (ty := 24) (x := (Operand.tmp 129)) (y := (Operand.tmp 130)) (z := .agg #[.string (⟨#[]⟩ : ByteArray), .int .i64 0]) (bytes := 24) (l2 := ([(⟨t89, w64 (4 * ((w64 (((ix eS.d l2 v77).size : Int) + v77)).tmod (w64 (y39 + 1))))⟩ : Sapi_Sym)] : List Sapi_Sym) ++ (l74.drop (v105 : Int).toNat)) hs hw (by kernel_rfl) (by kernel_rfl) (by kernel_rfl) (by kernel_rfl) (by kernel_rfl) hsrc156 (by omega) (by omega)
     refine go_run hs (op := (Op.call { callee := (Callee.builtin Builtin.append), args := #[(Operand.tmp 129), (Operand.tmp 130)], argTypes := #[24, 24] })) (ty := 24) (dst := some 131) (g := none) (by kernel_rfl) (by kernel_rfl) (by kernel_rfl) hx155 [2, 6, 7, 8, 10, 131] (L' := [(2, .slice (some ad87) l2.length c2), (6, .pointer (some (⟨g2, 0, none⟩ : Addr))), (7, .pointer (some (⟨g27, 0, none⟩ : Addr))), (8, .int .i64 y39), (10, .int .i64 v77), (131, .slice Aa152 ((([] : List Sapi_Sym) ++ (l74.take (v105 : Int).toNat)) ++ (([(⟨t89, w64 (4 * ((w64 (((ix eS.d l2 v77).size : Int) + v77)).tmod (w64 (y39 + 1))))⟩ : Sapi_Sym)] : List Sapi_Sym) ++ (l74.drop (v105 : Int).toNat))).length cc153)]) (by kernel_rfl) ?_
     clear hs; intro a hs
     refine go_pvs 8 9 [2, 6, 7, 8, 10, 131, 132] hs (L' := [(2, .slice (some ad87) l2.length c2), (6, .pointer (some (⟨g2, 0, none⟩ : Addr))), (7, .pointer (some (⟨g27, 0, none⟩ : Addr))), (8, .int .i64 y39), (10, .int .i64 v77), (131, .slice Aa152 ((([] : List Sapi_Sym) ++ (l74.take (v105 : Int).toNat)) ++ (([(⟨t89, w64 (4 * ((w64 (((ix eS.d l2 v77).size : Int) + v77)).tmod (w64 (y39 + 1))))⟩ : Sapi_Sym)] : List Sapi_Sym) ++ (l74.drop (v105 : Int).toNat))).length cc153), (132, .pointer (some (((⟨g27, 0, none⟩ : Addr) : Addr).add 2)))]) (by kernel_rfl) ?_ rfl
     clear hs; intro a hs
     replace hw := hw.up 2
     obtain ⟨wd157, hx158, hw⟩ := x_bput (P := Tryd.prog) (ty := 0) (t := 24) (y := (Operand.tmp 132)) (z := (Operand.tmp 131)) (o := 2) (p := ((⟨g27, 0, none⟩ : Addr) : Addr).add 2) (v := .slice Aa152 ((([] : List Sapi_Sym) ++ (l74.take (v105 : Int).toNat)) ++ (([(⟨t89, w64 (4 * ((w64 (((ix eS.d l2 v77).size : Int) + v77)).tmod (w64 (y39 + 1))))⟩ : Sapi_Sym)] : List Sapi_Sym) ++ (l74.drop (v105 : Int).toNat))).length cc153) (vs := [.slice Aa152 ((([] : List Sapi_Sym) ++ (l74.take (v105 : Int).toNat)) ++ (([(⟨t89, w64 (4 * ((w64 (((ix eS.d l2 v77).size : Int) + v77)).tmod (w64 (y39 + 1))))⟩ : Sapi_Sym)] : List Sapi_Sym) ++ (l74.drop (v105 : Int).toNat))).length cc153]) (cs' := [.slice Aa22 l70.length cc23, .slice Aa44 t42.length cc45, .slice Aa152 ((([] : List Sapi_Sym) ++ (l74.take (v105 : Int).toNat)) ++ (([(⟨t89, w64 (4 * ((w64 (((ix eS.d l2 v77).size : Int) + v77)).tmod (w64 (y39 + 1))))⟩ : Sapi_Sym)] : List Sapi_Sym) ++ (l74.drop (v105 : Int).toNat))).length cc153]) hs hw (by kernel_rfl) rfl (by kernel_rfl) rfl (by kernel_rfl) (by kernel_rfl) (by simp [Value.oneCell']) rfl
     refine go_unit hs (op := (Op.store 24 (Operand.tmp 132) (Operand.tmp 131))) (ty := 0) (dst := none) (g := none) (by kernel_rfl) (by kernel_rfl) (by kernel_rfl) hx158 [2, 6, 7, 8, 10] (L' := [(2, .slice (some ad87) l2.length c2), (6, .pointer (some (⟨g2, 0, none⟩ : Addr))), (7, .pointer (some (⟨g27, 0, none⟩ : Addr))), (8, .int .i64 y39), (10, .int .i64 v77)]) (by kernel_rfl) ?_
     clear hs; intro a hs
     refine go_end (by kernel_rfl) ?_
     refine ib_norm ?_
     replace hw := hw.up 1
     replace hw := hw.up 13
     replace hw := hw.up 13
     replace hw := hw.up 13
     replace hw := hw.up 13
     replace hw := hw.up 13
     replace hw := hw.up 13
     replace hw := hw.up 13
     replace hw := hw.up 13
     replace hw := hw.up 13
     replace hw := hw.up 12
     replace hw := hw.up 11
     replace hw := hw.only 12
     exact hJ9 Aa152 cc153 ((([] : List Sapi_Sym) ++ (l74.take (v105 : Int).toNat)) ++ (([(⟨t89, w64 (4 * ((w64 (((ix eS.d l2 v77).size : Int) + v77)).tmod (w64 (y39 + 1))))⟩ : Sapi_Sym)] : List Sapi_Sym) ++ (l74.drop (v105 : Int).toNat))) _ _ (hs.keep [2, 6, 7, 8, 10] (by kernel_rfl)) hw H
    refine go_seq_k fun K107 hK107 => ?_
    have hJ7 : ∀ (v111 : Bool) (a : Act) (w : World), Slots a 134 [(2, .slice (some ad87) l2.length c2), (6, .pointer (some (⟨g2, 0, none⟩ : Addr))), (7, .pointer (some (⟨g27, 0, none⟩ : Addr))), (8, .int .i64 y39), (10, .int .i64 v77), (11, .string t89), (12, .int .i64 v105), (104, .bool v111)] → St [] w0 w [box g27 26 [.slice Aa22 l70.length cc23, .slice Aa44 t42.length cc45, .slice Aa75 l74.length cc76], own 3 (eI .i64) Aa44 cc45 t42, own 39 eSapi_Sym Aa75 cc76 l74, own 3 (eI .i64) none 0 ([] : List Int), own 39 eSapi_Sym none 0 ([] : List Sapi_Sym), own 3 (eI .i64) none 0 ([] : List Int), own 37 (eI .u32) none 0 ([] : List Int), own 37 (eI .u32) Aa22 cc23 l70, own 39 eSapi_Sym none 0 ([] : List Sapi_Sym), own 3 (eI .i64) none 0 ([] : List Int), own 37 (eI .u32) none 0 ([] : List Int), box g2 26 [.slice none ([] : List Int).length 0, .slice none ([] : List Int).length 0, .slice none ([] : List Sapi_Sym).length 0]] → rivetref09_Fit.j7 v77 l74 l2 y39 v105 t89 v111 = some o → K107 a w := by
     intro v111 a w hs hw H
     unfold rivetref09_Fit.j7 at H
     refine hK107 _ _ ?_
     refine go_cond hs v111 (by kernel_rfl) (fun hc => ?_) (fun hc => ?_)
     ·replace H := ite_t H hc
      have hb112 := hc
      rw [hb112] at hs
      refine wp_exit ?_
      refine th_exit ?_
      refine in_block ?_
      replace hw := hw.up 2
      replace hw := hw.up 11
      replace hw := hw.up 11
      replace hw := hw.up 11
      replace hw := hw.up 11
      replace hw := hw.up 11
      replace hw := hw.up 11
      replace hw := hw.up 11
      replace hw := hw.up 11
      replace hw := hw.up 11
      replace hw := hw.up 11
      replace hw := hw.up 11
      replace hw := hw.only 12
      exact hJ9 Aa75 cc76 l74 _ _ (hs.keep [2, 6, 7, 8, 10] (by kernel_rfl)) hw H
     ·replace H := ite_f H (ff hc)
      have hb113 := hc
      rw [hb113] at hs
      refine wp_skip ?_
      replace hw := hw.up 11
      replace hw := hw.up 11
      replace hw := hw.up 11
      replace hw := hw.up 11
      replace hw := hw.up 11
      replace hw := hw.up 11
      replace hw := hw.up 11
      replace hw := hw.up 11
      replace hw := hw.up 11
      replace hw := hw.up 11
      replace hw := hw.up 11
      replace hw := hw.up 11
      replace hw := hw.only 12
      exact hJ8 _ _ (hs.keep [2, 6, 7, 8, 10, 11, 12] (by kernel_rfl)) hw H
    refine go_region ?_
    refine go_pvs 0 2 [2, 6, 7, 8, 10, 11, 12, 90, 91] hs (L' := [(2, .slice (some ad87) l2.length c2), (6, .pointer (some (⟨g2, 0, none⟩ : Addr))), (7, .pointer (some (⟨g27, 0, none⟩ : Addr))), (8, .int .i64 y39), (10, .int .i64 v77), (11, .string t89), (12, .int .i64 v105), (90, .int .i64 v105), (91, .pointer (some (((⟨g27, 0, none⟩ : Addr) : Addr).add 2)))]) (by kernel_rfl) ?_ rfl
    clear hs; intro a hs
    refine go_run hs (op := (Op.load 24 (Operand.tmp 91))) (ty := 24) (dst := some 92) (g := none) (by kernel_rfl) (by kernel_rfl) (by kernel_rfl) (x_bld (g := g27) (o := 2) (p := ((⟨g27, 0, none⟩ : Addr) : Addr).add 2) (v := .slice Aa75 l74.length cc76) (hw.up 0) (by kernel_rfl) rfl (by kernel_rfl) (by kernel_rfl)) [2, 6, 7, 8, 10, 11, 12, 90, 92] (L' := [(2, .slice (some ad87) l2.length c2), (6, .pointer (some (⟨g2, 0, none⟩ : Addr))), (7, .pointer (some (⟨g27, 0, none⟩ : Addr))), (8, .int .i64 y39), (10, .int .i64 v77), (11, .string t89), (12, .int .i64 v105), (90, .int .i64 v105), (92, .slice Aa75 l74.length cc76)]) (by kernel_rfl) ?_
    clear hs; intro a hs
    refine go_pvs 3 6 [2, 6, 7, 8, 10, 11, 12, 95] hs (L' := [(2, .slice (some ad87) l2.length c2), (6, .pointer (some (⟨g2, 0, none⟩ : Addr))), (7, .pointer (some (⟨g27, 0, none⟩ : Addr))), (8, .int .i64 y39), (10, .int .i64 v77), (11, .string t89), (12, .int .i64 v105), (95, .bool (decide (v105 < (l74.length : Int))))]) (by kernel_rfl) ?_ rfl
    clear hs; intro a hs
    cases hb108 : (decide (v105 < (l74.length : Int)))
    ·replace H := ite_f H (of_decide_eq_false hb108)
     rw [hb108] at hs
     refine go_pvs 6 15 [2, 6, 7, 8, 10, 11, 12, 104] hs (L' := [(2, .slice (some ad87) l2.length c2), (6, .pointer (some (⟨g2, 0, none⟩ : Addr))), (7, .pointer (some (⟨g27, 0, none⟩ : Addr))), (8, .int .i64 y39), (10, .int .i64 v77), (11, .string t89), (12, .int .i64 v105), (104, .bool false)]) (by kernel_rfl) ?_ rfl
     clear hs; intro a hs
     refine go_end (by kernel_rfl) ?_
     replace hw := hw.up 11
     replace hw := hw.up 11
     replace hw := hw.up 11
     replace hw := hw.up 11
     replace hw := hw.up 11
     replace hw := hw.up 11
     replace hw := hw.up 11
     replace hw := hw.up 11
     replace hw := hw.up 11
     replace hw := hw.up 11
     replace hw := hw.up 11
     replace hw := hw.up 11
     replace hw := hw.only 12
     exact hJ7 false _ _ (hs.keep [2, 6, 7, 8, 10, 11, 12, 104] (by kernel_rfl)) hw H
    ·replace H := ite_t H (of_decide_eq_true hb108)
     rw [hb108] at hs
     refine go_pvs 6 7 [2, 6, 7, 8, 10, 11, 12, 95, 96] hs (L' := [(2, .slice (some ad87) l2.length c2), (6, .pointer (some (⟨g2, 0, none⟩ : Addr))), (7, .pointer (some (⟨g27, 0, none⟩ : Addr))), (8, .int .i64 y39), (10, .int .i64 v77), (11, .string t89), (12, .int .i64 v105), (95, .bool true), (96, .pointer (some (((⟨g27, 0, none⟩ : Addr) : Addr).add 2)))]) (by kernel_rfl) ?_ rfl
     clear hs; intro a hs
     refine go_run hs (op := (Op.load 24 (Operand.tmp 96))) (ty := 24) (dst := some 97) (g := some (5, true)) (by kernel_rfl) (by kernel_rfl) (by kernel_rfl) (x_bld (g := g27) (o := 2) (p := ((⟨g27, 0, none⟩ : Addr) : Addr).add 2) (v := .slice Aa75 l74.length cc76) (hw.up 0) (by kernel_rfl) rfl (by kernel_rfl) (by kernel_rfl)) [2, 6, 7, 8, 10, 11, 12, 95, 97] (L' := [(2, .slice (some ad87) l2.length c2), (6, .pointer (some (⟨g2, 0, none⟩ : Addr))), (7, .pointer (some (⟨g27, 0, none⟩ : Addr))), (8, .int .i64 y39), (10, .int .i64 v77), (11, .string t89), (12, .int .i64 v105), (95, .bool true), (97, .slice Aa75 l74.length cc76)]) (by kernel_rfl) ?_
     clear hs; intro a hs
     refine go_pvs 8 9 [2, 6, 7, 8, 10, 11, 12, 95, 97, 98] hs (L' := [(2, .slice (some ad87) l2.length c2), (6, .pointer (some (⟨g2, 0, none⟩ : Addr))), (7, .pointer (some (⟨g27, 0, none⟩ : Addr))), (8, .int .i64 y39), (10, .int .i64 v77), (11, .string t89), (12, .int .i64 v105), (95, .bool true), (97, .slice Aa75 l74.length cc76), (98, .int .i64 v105)]) (by kernel_rfl) ?_ rfl
     clear hs; intro a hs
     obtain ⟨hp109, H⟩ := ite_only H
     obtain ⟨ad110, rfl⟩ := (Rd.of_own (hw.up 2)).some hp109.1 hp109.2
     refine go_run hs (op := (Op.indexAddr 24 (Operand.tmp 97) (Operand.tmp 98))) (ty := 0) (dst := some 99) (g := some (5, true)) (by kernel_rfl) (by kernel_rfl) (by kernel_rfl) (x_idx (T := 39) (sz := 2) (a := ad110) (n := l74.length) (cap := cc76) (k := .i64) (i := v105) (by kernel_rfl) (by kernel_rfl) (by kernel_rfl) (by kernel_rfl) hp109.1 hp109.2) [2, 6, 7, 8, 10, 11, 12, 95, 99] (L' := [(2, .slice (some ad87) l2.length c2), (6, .pointer (some (⟨g2, 0, none⟩ : Addr))), (7, .pointer (some (⟨g27, 0, none⟩ : Addr))), (8, .int .i64 y39), (10, .int .i64 v77), (11, .string t89), (12, .int .i64 v105), (95, .bool true), (99, .pointer (some (ad110.add (v105.toNat * 2))))]) (by kernel_rfl) ?_
     clear hs; intro a hs
     refine go_pvs 10 11 [2, 6, 7, 8, 10, 11, 12, 95, 100] hs (L' := [(2, .slice (some ad87) l2.length c2), (6, .pointer (some (⟨g2, 0, none⟩ : Addr))), (7, .pointer (some (⟨g27, 0, none⟩ : Addr))), (8, .int .i64 y39), (10, .int .i64 v77), (11, .string t89), (12, .int .i64 v105), (95, .bool true), (100, .pointer (some ((ad110.add (v105.toNat * 2) : Addr).add 0)))]) (by kernel_rfl) ?_ rfl
     clear hs; intro a hs
     refine go_run hs (op := (Op.load 9 (Operand.tmp 100))) (ty := 9) (dst := some 101) (g := some (5, true)) (by kernel_rfl) (by kernel_rfl) (by kernel_rfl) (x_ld (E := eSapi_Sym) (off := 0) (p := (ad110.add (v105.toNat * 2) : Addr).add 0) (v := .string ((ix eSapi_Sym.d l74 v105).Name)) (Rd.of_own (hw.up 2)) hp109.1 hp109.2 (by kernel_rfl) (by simp only [add_add', Nat.add_assoc]; rfl) (by kernel_rfl) (by kernel_rfl)) [2, 6, 7, 8, 10, 11, 12, 95, 101] (L' := [(2, .slice (some ad87) l2.length c2), (6, .pointer (some (⟨g2, 0, none⟩ : Addr))), (7, .pointer (some (⟨g27, 0, none⟩ : Addr))), (8, .int .i64 y39), (10, .int .i64 v77), (11, .string t89), (12, .int .i64 v105), (95, .bool true), (101, .string ((ix eSapi_Sym.d l74 v105).Name))]) (by kernel_rfl) ?_
     clear hs; intro a hs
     refine go_pvs 12 15 [2, 6, 7, 8, 10, 11, 12, 104] hs (L' := [(2, .slice (some ad87) l2.length c2), (6, .pointer (some (⟨g2, 0, none⟩ : Addr))), (7, .pointer (some (⟨g27, 0, none⟩ : Addr))), (8, .int .i64 y39), (10, .int .i64 v77), (11, .string t89), (12, .int .i64 v105), (104, .bool (((ix eSapi_Sym.d l74 v105).Name).toList == t89.toList))]) (by kernel_rfl) ?_ rfl
     clear hs; intro a hs
     refine go_end (by kernel_rfl) ?_
     replace hw := hw.up 11
     replace hw := hw.up 11
     replace hw := hw.up 11
     replace hw := hw.up 11
     replace hw := hw.up 11
     replace hw := hw.up 11
     replace hw := hw.up 11
     replace hw := hw.up 11
     replace hw := hw.up 11
     replace hw := hw.up 11
     replace hw := hw.up 11
     replace hw := hw.up 11
     replace hw := hw.only 12
     exact hJ7 (((ix eSapi_Sym.d l74 v105).Name).toList == t89.toList) _ _ (hs.keep [2, 6, 7, 8, 10, 11, 12, 104] (by kernel_rfl)) hw H
   clear H
   refine go_loop (σ := Int) (fun σ a w => Slots a 134 [(2, .slice (some ad87) l2.length c2), (6, .pointer (some (⟨g2, 0, none⟩ : Addr))), (7, .pointer (some (⟨g27, 0, none⟩ : Addr))), (8, .int .i64 y39), (10, .int .i64 v77), (11, .string t89), (12, .int .i64 σ)] ∧ St [] w0 w [box g27 26 [.slice Aa22 l70.length cc23, .slice Aa44 t42.length cc45, .slice Aa75 l74.length cc76], own 3 (eI .i64) Aa44 cc45 t42, own 39 eSapi_Sym Aa75 cc76 l74, own 3 (eI .i64) none 0 ([] : List Int), own 39 eSapi_Sym none 0 ([] : List Sapi_Sym), own 3 (eI .i64) none 0 ([] : List Int), own 37 (eI .u32) none 0 ([] : List Int), own 37 (eI .u32) Aa22 cc23 l70, own 39 eSapi_Sym none 0 ([] : List Sapi_Sym), own 3 (eI .i64) none 0 ([] : List Int), own 37 (eI .u32) none 0 ([] : List Int), box g2 26 [.slice none ([] : List Int).length 0, .slice none ([] : List Int).length 0, .slice none ([] : List Sapi_Sym).length 0]]) hl95 (by exact ⟨hs.keep [2, 6, 7, 8, 10, 11, 12] (by kernel_rfl), hw⟩) ?_
   rintro v96 a w ⟨hs, hw⟩ o H hr95
   replace hs : Slots a 134 [(2, .slice (some ad87) l2.length c2), (6, .pointer (some (⟨g2, 0, none⟩ : Addr))), (7, .pointer (some (⟨g27, 0, none⟩ : Addr))), (8, .int .i64 y39), (10, .int .i64 v77), (11, .string t89), (12, .int .i64 v96)] := hs
   replace hw : St [] w0 w [box g27 26 [.slice Aa22 l70.length cc23, .slice Aa44 t42.length cc45, .slice Aa75 l74.length cc76], own 3 (eI .i64) Aa44 cc45 t42, own 39 eSapi_Sym Aa75 cc76 l74, own 3 (eI .i64) none 0 ([] : List Int), own 39 eSapi_Sym none 0 ([] : List Sapi_Sym), own 3 (eI .i64) none 0 ([] : List Int), own 37 (eI .u32) none 0 ([] : List Int), own 37 (eI .u32) Aa22 cc23 l70, own 39 eSapi_Sym none 0 ([] : List Sapi_Sym), own 3 (eI .i64) none 0 ([] : List Int), own 37 (eI .u32) none 0 ([] : List Int), box g2 26 [.slice none ([] : List Int).length 0, .slice none ([] : List Int).length 0, .slice none ([] : List Sapi_Sym).length 0]] := hw
   replace H : rivetref09_Fit.b95 l74 t89 v96 = some o := H
   unfold rivetref09_Fit.b95 at H
   refine go_seq_k fun K97 hK97 => ?_
   have hJ5 : ∀ (a : Act) (w : World), Slots a 134 [(2, .slice (some ad87) l2.length c2), (6, .pointer (some (⟨g2, 0, none⟩ : Addr))), (7, .pointer (some (⟨g27, 0, none⟩ : Addr))), (8, .int .i64 y39), (10, .int .i64 v77), (11, .string t89), (12, .int .i64 v96)] → St [] w0 w [box g27 26 [.slice Aa22 l70.length cc23, .slice Aa44 t42.length cc45, .slice Aa75 l74.length cc76], own 3 (eI .i64) Aa44 cc45 t42, own 39 eSapi_Sym Aa75 cc76 l74, own 3 (eI .i64) none 0 ([] : List Int), own 39 eSapi_Sym none 0 ([] : List Sapi_Sym), own 3 (eI .i64) none 0 ([] : List Int), own 37 (eI .u32) none 0 ([] : List Int), own 37 (eI .u32) Aa22 cc23 l70, own 39 eSapi_Sym none 0 ([] : List Sapi_Sym), own 3 (eI .i64) none 0 ([] : List Int), own 37 (eI .u32) none 0 ([] : List Int), box g2 26 [.slice none ([] : List Int).length 0, .slice none ([] : List Int).length 0, .slice none ([] : List Sapi_Sym).length 0]] → rivetref09_Fit.j5 v96 = some o → K97 a w := by
    intro a w hs hw H
    unfold rivetref09_Fit.j5 at H
    refine hK97 _ _ ?_
    refine wp_block ?_
    refine go_region ?_
    refine go_pvs 0 3 [2, 6, 7, 8, 10, 11, 12] hs (L' := [(2, .slice (some ad87) l2.length c2), (6, .pointer (some (⟨g2, 0, none⟩ : Addr))), (7, .pointer (some (⟨g27, 0, none⟩ : Addr))), (8, .int .i64 y39), (10, .int .i64 v77), (11, .string t89), (12, .int .i64 (w64 (v96 + 1)))]) (by kernel_rfl) ?_ rfl
    clear hs; intro a hs
    refine go_end (by kernel_rfl) ?_
    refine ib_norm ?_
    replace hw := hw.up 11
    replace hw := hw.up 11
    replace hw := hw.up 11
    replace hw := hw.up 11
    replace hw := hw.up 11
    replace hw := hw.up 11
    replace hw := hw.up 11
    replace hw := hw.up 11
    replace hw := hw.up 11
    replace hw := hw.up 11
    replace hw := hw.up 11
    replace hw := hw.up 11
    replace hw := hw.only 12
    exact round_end (w64 (v96 + 1)) (Option.some.inj H).symm ⟨hs.keep [2, 6, 7, 8, 10, 11, 12] (by kernel_rfl), hw⟩
   refine go_seq_k fun K98 hK98 => ?_
   have hJ4 : ∀ (v102 : Bool) (a : Act) (w : World), Slots a 134 [(2, .slice (some ad87) l2.length c2), (6, .pointer (some (⟨g2, 0, none⟩ : Addr))), (7, .pointer (some (⟨g27, 0, none⟩ : Addr))), (8, .int .i64 y39), (10, .int .i64 v77), (11, .string t89), (12, .int .i64 v96), (87, .bool v102)] → St [] w0 w [box g27 26 [.slice Aa22 l70.length cc23, .slice Aa44 t42.length cc45, .slice Aa75 l74.length cc76], own 3 (eI .i64) Aa44 cc45 t42, own 39 eSapi_Sym Aa75 cc76 l74, own 3 (eI .i64) none 0 ([] : List Int), own 39 eSapi_Sym none 0 ([] : List Sapi_Sym), own 3 (eI .i64) none 0 ([] : List Int), own 37 (eI .u32) none 0 ([] : List Int), own 37 (eI .u32) Aa22 cc23 l70, own 39 eSapi_Sym none 0 ([] : List Sapi_Sym), own 3 (eI .i64) none 0 ([] : List Int), own 37 (eI .u32) none 0 ([] : List Int), box g2 26 [.slice none ([] : List Int).length 0, .slice none ([] : List Int).length 0, .slice none ([] : List Sapi_Sym).length 0]] → rivetref09_Fit.j4 v96 v102 = some o → K98 a w := by
    intro v102 a w hs hw H
    unfold rivetref09_Fit.j4 at H
    refine hK98 _ _ ?_
    refine go_cond hs v102 (by kernel_rfl) (fun hc => ?_) (fun hc => ?_)
    ·replace H := ite_t H hc
     have hb103 := hc
     rw [hb103] at hs
     refine wp_skip ?_
     replace hw := hw.up 11
     replace hw := hw.up 11
     replace hw := hw.up 11
     replace hw := hw.up 11
     replace hw := hw.up 11
     replace hw := hw.up 11
     replace hw := hw.up 11
     replace hw := hw.up 11
     replace hw := hw.up 11
     replace hw := hw.up 11
     replace hw := hw.up 11
     replace hw := hw.up 11
     replace hw := hw.only 12
     exact hJ5 _ _ (hs.keep [2, 6, 7, 8, 10, 11, 12] (by kernel_rfl)) hw H
    ·replace H := ite_f H (ff hc)
     have hb104 := hc
     rw [hb104] at hs
     refine wp_exit ?_
     refine th_exit ?_
     refine th_exit ?_
     refine in_block ?_
     replace hw := hw.up 11
     replace hw := hw.up 11
     replace hw := hw.up 11
     replace hw := hw.up 11
     replace hw := hw.up 11
     replace hw := hw.up 11
     replace hw := hw.up 11
     replace hw := hw.up 11
     replace hw := hw.up 11
     replace hw := hw.up 11
     replace hw := hw.up 11
     replace hw := hw.up 11
     replace hw := hw.only 12
     rw [← hr95 _ (Option.some.inj H).symm] at HX95
     exact hJ6 v96 _ _ (hs.keep [2, 6, 7, 8, 10, 11, 12] (by kernel_rfl)) hw HX95
   refine go_region ?_
   refine go_pvs 0 2 [2, 6, 7, 8, 10, 11, 12, 73, 74] hs (L' := [(2, .slice (some ad87) l2.length c2), (6, .pointer (some (⟨g2, 0, none⟩ : Addr))), (7, .pointer (some (⟨g27, 0, none⟩ : Addr))), (8, .int .i64 y39), (10, .int .i64 v77), (11, .string t89), (12, .int .i64 v96), (73, .int .i64 v96), (74, .pointer (some (((⟨g27, 0, none⟩ : Addr) : Addr).add 2)))]) (by kernel_rfl) ?_ rfl
   clear hs; intro a hs
   refine go_run hs (op := (Op.load 24 (Operand.tmp 74))) (ty := 24) (dst := some 75) (g := none) (by kernel_rfl) (by kernel_rfl) (by kernel_rfl) (x_bld (g := g27) (o := 2) (p := ((⟨g27, 0, none⟩ : Addr) : Addr).add 2) (v := .slice Aa75 l74.length cc76) (hw.up 0) (by kernel_rfl) rfl (by kernel_rfl) (by kernel_rfl)) [2, 6, 7, 8, 10, 11, 12, 73, 75] (L' := [(2, .slice (some ad87) l2.length c2), (6, .pointer (some (⟨g2, 0, none⟩ : Addr))), (7, .pointer (some (⟨g27, 0, none⟩ : Addr))), (8, .int .i64 y39), (10, .int .i64 v77), (11, .string t89), (12, .int .i64 v96), (73, .int .i64 v96), (75, .slice Aa75 l74.length cc76)]) (by kernel_rfl) ?_
   clear hs; intro a hs
   refine go_pvs 3 6 [2, 6, 7, 8, 10, 11, 12, 78] hs (L' := [(2, .slice (some ad87) l2.length c2), (6, .pointer (some (⟨g2, 0, none⟩ : Addr))), (7, .pointer (some (⟨g27, 0, none⟩ : Addr))), (8, .int .i64 y39), (10, .int .i64 v77), (11, .string t89), (12, .int .i64 v96), (78, .bool (decide (v96 < (l74.length : Int))))]) (by kernel_rfl) ?_ rfl
   clear hs; intro a hs
   cases hb99 : (decide (v96 < (l74.length : Int)))
   ·replace H := ite_f H (of_decide_eq_false hb99)
    rw [hb99] at hs
    refine go_pvs 6 15 [2, 6, 7, 8, 10, 11, 12, 87] hs (L' := [(2, .slice (some ad87) l2.length c2), (6, .pointer (some (⟨g2, 0, none⟩ : Addr))), (7, .pointer (some (⟨g27, 0, none⟩ : Addr))), (8, .int .i64 y39), (10, .int .i64 v77), (11, .string t89), (12, .int .i64 v96), (87, .bool false)]) (by kernel_rfl) ?_ rfl
    clear hs; intro a hs
    refine go_end (by kernel_rfl) ?_
    replace hw := hw.up 11
    replace hw := hw.up 11
    replace hw := hw.up 11
    replace hw := hw.up 11
    replace hw := hw.up 11
    replace hw := hw.up 11
    replace hw := hw.up 11
    replace hw := hw.up 11
    replace hw := hw.up 11
    replace hw := hw.up 11
    replace hw := hw.up 11
    replace hw := hw.up 11
    replace hw := hw.only 12
    exact hJ4 false _ _ (hs.keep [2, 6, 7, 8, 10, 11, 12, 87] (by kernel_rfl)) hw H
   ·replace H := ite_t H (of_decide_eq_true hb99)
    rw [hb99] at hs
    refine go_pvs 6 7 [2, 6, 7, 8, 10, 11, 12, 78, 79] hs (L' := [(2, .slice (some ad87) l2.length c2), (6, .pointer (some (⟨g2, 0, none⟩ : Addr))), (7, .pointer (some (⟨g27, 0, none⟩ : Addr))), (8, .int .i64 y39), (10, .int .i64 v77), (11, .string t89), (12, .int .i64 v96), (78, .bool true), (79, .pointer (some (((⟨g27, 0, none⟩ : Addr) : Addr).add 2)))]) (by kernel_rfl) ?_ rfl
    clear hs; intro a hs
    refine go_run hs (op := (Op.load 24 (Operand.tmp 79))) (ty := 24) (dst := some 80) (g := some (5, true)) (by kernel_rfl) (by kernel_rfl) (by kernel_rfl) (x_bld (g := g27) (o := 2) (p := ((⟨g27, 0, none⟩ : Addr) : Addr).add 2) (v := .slice Aa75 l74.length cc76) (hw.up 0) (by kernel_rfl) rfl (by kernel_rfl) (by kernel_rfl)) [2, 6, 7, 8, 10, 11, 12, 78, 80] (L' := [(2, .slice (some ad87) l2.length c2), (6, .pointer (some (⟨g2, 0, none⟩ : Addr))), (7, .pointer (some (⟨g27, 0, none⟩ : Addr))), (8, .int .i64 y39), (10, .int .i64 v77), (11, .string t89), (12, .int .i64 v96), (78, .bool true), (80, .slice Aa75 l74.length cc76)]) (by kernel_rfl) ?_
    clear hs; intro a hs
    refine go_pvs 8 9 [2, 6, 7, 8, 10, 11, 12, 78, 80, 81] hs (L' := [(2, .slice (some ad87) l2.length c2), (6, .pointer (some (⟨g2, 0, none⟩ : Addr))), (7, .pointer (some (⟨g27, 0, none⟩ : Addr))), (8, .int .i64 y39), (10, .int .i64 v77), (11, .string t89), (12, .int .i64 v96), (78, .bool true), (80, .slice Aa75 l74.length cc76), (81, .int .i64 v96)]) (by kernel_rfl) ?_ rfl
    clear hs; intro a hs
    obtain ⟨hp100, H⟩ := ite_only H
    obtain ⟨ad101, rfl⟩ := (Rd.of_own (hw.up 2)).some hp100.1 hp100.2
    refine go_run hs (op := (Op.indexAddr 24 (Operand.tmp 80) (Operand.tmp 81))) (ty := 0) (dst := some 82) (g := some (5, true)) (by kernel_rfl) (by kernel_rfl) (by kernel_rfl) (x_idx (T := 39) (sz := 2) (a := ad101) (n := l74.length) (cap := cc76) (k := .i64) (i := v96) (by kernel_rfl) (by kernel_rfl) (by kernel_rfl) (by kernel_rfl) hp100.1 hp100.2) [2, 6, 7, 8, 10, 11, 12, 78, 82] (L' := [(2, .slice (some ad87) l2.length c2), (6, .pointer (some (⟨g2, 0, none⟩ : Addr))), (7, .pointer (some (⟨g27, 0, none⟩ : Addr))), (8, .int .i64 y39), (10, .int .i64 v77), (11, .string t89), (12, .int .i64 v96), (78, .bool true), (82, .pointer (some (ad101.add (v96.toNat * 2))))]) (by kernel_rfl) ?_
    clear hs; intro a hs
    refine go_pvs 10 11 [2, 6, 7, 8, 10, 11, 12, 78, 83] hs (L' := [(2, .slice (some ad87) l2.length c2), (6, .pointer (some (⟨g2, 0, none⟩ : Addr))), (7, .pointer (some (⟨g27, 0, none⟩ : Addr))), (8, .int .i64 y39), (10, .int .i64 v77), (11, .string t89), (12, .int .i64 v96), (78, .bool true), (83, .pointer (some ((ad101.add (v96.toNat * 2) : Addr).add 0)))]) (by kernel_rfl) ?_ rfl
    clear hs; intro a hs
    refine go_run hs (op := (Op.load 9 (Operand.tmp 83))) (ty := 9) (dst := some 84) (g := some (5, true)) (by kernel_rfl) (by kernel_rfl) (by kernel_rfl) (x_ld (E := eSapi_Sym) (off := 0) (p := (ad101.add (v96.toNat * 2) : Addr).add 0) (v := .string ((ix eSapi_Sym.d l74 v96).Name)) (Rd.of_own (hw.up 2)) hp100.1 hp100.2 (by kernel_rfl) (by simp only [add_add', Nat.add_assoc]; rfl) (by kernel_rfl) (by kernel_rfl)) [2, 6, 7, 8, 10, 11, 12, 78, 84] (L' := [(2, .slice (some ad87) l2.length c2), (6, .pointer (some (⟨g2, 0, none⟩ : Addr))), (7, .pointer (some (⟨g27, 0, none⟩ : Addr))), (8, .int .i64 y39), (10, .int .i64 v77), (11, .string t89), (12, .int .i64 v96), (78, .bool true), (84, .string ((ix eSapi_Sym.d l74 v96).Name))]) (by kernel_rfl) ?_
    clear hs; intro a hs
    refine go_pvs 12 15 [2, 6, 7, 8, 10, 11, 12, 87] hs (L' := [(2, .slice (some ad87) l2.length c2), (6, .pointer (some (⟨g2, 0, none⟩ : Addr))), (7, .pointer (some (⟨g27, 0, none⟩ : Addr))), (8, .int .i64 y39), (10, .int .i64 v77), (11, .string t89), (12, .int .i64 v96), (87, .bool (Op.bytesLess ((ix eSapi_Sym.d l74 v96).Name).toList t89.toList))]) (by kernel_rfl) ?_ rfl
    clear hs; intro a hs
    refine go_end (by kernel_rfl) ?_
    replace hw := hw.up 11
    replace hw := hw.up 11
    replace hw := hw.up 11
    replace hw := hw.up 11
    replace hw := hw.up 11
    replace hw := hw.up 11
    replace hw := hw.up 11
    replace hw := hw.up 11
    replace hw := hw.up 11
    replace hw := hw.up 11
    replace hw := hw.up 11
    replace hw := hw.up 11
    replace hw := hw.only 12
    exact hJ4 (Op.bytesLess ((ix eSapi_Sym.d l74 v96).Name).toList t89.toList) _ _ (hs.keep [2, 6, 7, 8, 10, 11, 12, 87] (by kernel_rfl)) hw H
  refine go_seq_k fun K79 hK79 => ?_
  have hJ2 : ∀ (v81 : Bool) (a : Act) (w : World), Slots a 134 [(2, .slice A2 l2.length c2), (6, .pointer (some (⟨g2, 0, none⟩ : Addr))), (7, .pointer (some (⟨g27, 0, none⟩ : Addr))), (8, .int .i64 y39), (10, .int .i64 v77), (65, .bool v81)] → St [] w0 w [box g27 26 [.slice Aa22 l70.length cc23, .slice Aa44 t42.length cc45, .slice Aa75 l74.length cc76], own 3 (eI .i64) Aa44 cc45 t42, own 39 eSapi_Sym Aa75 cc76 l74, own 3 (eI .i64) none 0 ([] : List Int), own 39 eSapi_Sym none 0 ([] : List Sapi_Sym), own 3 (eI .i64) none 0 ([] : List Int), own 37 (eI .u32) none 0 ([] : List Int), own 37 (eI .u32) Aa22 cc23 l70, own 39 eSapi_Sym none 0 ([] : List Sapi_Sym), own 3 (eI .i64) none 0 ([] : List Int), own 37 (eI .u32) none 0 ([] : List Int), box g2 26 [.slice none ([] : List Int).length 0, .slice none ([] : List Int).length 0, .slice none ([] : List Sapi_Sym).length 0]] → rivetref09_Fit.j2 v77 l2 l74 y39 v81 = some o → K79 a w := by
   intro v81 a w hs hw H
   unfold rivetref09_Fit.j2 at H
   refine hK79 _ _ ?_
   refine go_cond hs v81 (by kernel_rfl) (fun hc => ?_) (fun hc => ?_)
   ·replace H := ite_t H hc
    have hb82 := hc
    rw [hb82] at hs
    refine wp_skip ?_
    replace hw := hw.up 11
    replace hw := hw.up 11
    replace hw := hw.up 11
    replace hw := hw.up 11
    replace hw := hw.up 11
    replace hw := hw.up 11
    replace hw := hw.up 11
    replace hw := hw.up 11
    replace hw := hw.up 11
    replace hw := hw.up 11
    replace hw := hw.up 11
    replace hw := hw.up 11
    replace hw := hw.only 12
    exact hJ3 _ _ (hs.keep [2, 6, 7, 8, 10] (by kernel_rfl)) hw H
   ·replace H := ite_f H (ff hc)
    have hb83 := hc
    rw [hb83] at hs
    refine wp_exit ?_
    refine th_exit ?_
    refine th_exit ?_
    refine in_block ?_
    replace hw := hw.up 11
    replace hw := hw.up 11
    replace hw := hw.up 11
    replace hw := hw.up 11
    replace hw := hw.up 11
    replace hw := hw.up 11
    replace hw := hw.up 11
    replace hw := hw.up 11
    replace hw := hw.up 11
    replace hw := hw.up 11
    replace hw := hw.up 11
    replace hw := hw.up 11
    replace hw := hw.only 12
    rw [← hr73 _ (Option.some.inj H).symm] at HX73
    exact hJ10 Aa75 cc76 l74 _ _ (hs.keep [6, 7] (by kernel_rfl)) hw HX73
  refine go_region ?_
  refine go_pvs 0 5 [2, 6, 7, 8, 10, 62] hs (L' := [(2, .slice A2 l2.length c2), (6, .pointer (some (⟨g2, 0, none⟩ : Addr))), (7, .pointer (some (⟨g27, 0, none⟩ : Addr))), (8, .int .i64 y39), (10, .int .i64 v77), (62, .bool (decide (v77 < (l2.length : Int))))]) (by kernel_rfl) ?_ rfl
  clear hs; intro a hs
  cases hb80 : (decide (v77 < (l2.length : Int)))
  ·replace H := ite_f H (of_decide_eq_false hb80)
   rw [hb80] at hs
   refine go_pvs 5 8 [2, 6, 7, 8, 10, 65] hs (L' := [(2, .slice A2 l2.length c2), (6, .pointer (some (⟨g2, 0, none⟩ : Addr))), (7, .pointer (some (⟨g27, 0, none⟩ : Addr))), (8, .int .i64 y39), (10, .int .i64 v77), (65, .bool false)]) (by kernel_rfl) ?_ rfl
   clear hs; intro a hs
   refine go_end (by kernel_rfl) ?_
   replace hw := hw.up 11
   replace hw := hw.up 11
   replace hw := hw.up 11
   replace hw := hw.up 11
   replace hw := hw.up 11
   replace hw := hw.up 11
   replace hw := hw.up 11
   replace hw := hw.up 11
   replace hw := hw.up 11
   replace hw := hw.up 11
   replace hw := hw.up 11
   replace hw := hw.up 11
   replace hw := hw.only 12
   exact hJ2 false _ _ (hs.keep [2, 6, 7, 8, 10, 65] (by kernel_rfl)) hw H
  ·replace H := ite_t H (of_decide_eq_true hb80)
   rw [hb80] at hs
   refine go_pvs 5 8 [2, 6, 7, 8, 10, 65] hs (L' := [(2, .slice A2 l2.length c2), (6, .pointer (some (⟨g2, 0, none⟩ : Addr))), (7, .pointer (some (⟨g27, 0, none⟩ : Addr))), (8, .int .i64 y39), (10, .int .i64 v77), (65, .bool (decide (v77 < 8)))]) (by kernel_rfl) ?_ rfl
   clear hs; intro a hs
   refine go_end (by kernel_rfl) ?_
   replace hw := hw.up 11
   replace hw := hw.up 11
   replace hw := hw.up 11
   replace hw := hw.up 11
   replace hw := hw.up 11
   replace hw := hw.up 11
   replace hw := hw.up 11
   replace hw := hw.up 11
   replace hw := hw.up 11
   replace hw := hw.up 11
   replace hw := hw.up 11
   replace hw := hw.up 11
   replace hw := hw.only 12
   exact hJ2 (decide (v77 < 8)) _ _ (hs.keep [2, 6, 7, 8, 10, 65] (by kernel_rfl)) hw H
 clear H
 refine go_loop (σ := (List Int) × Int) (fun σ a w => Slots a 134 [(2, .slice A2 l2.length c2), (6, .pointer (some (⟨g2, 0, none⟩ : Addr))), (7, .pointer (some (⟨g27, 0, none⟩ : Addr))), (8, .int .i64 y39), (9, .int .i64 σ.2)] ∧ St [] w0 w [box g27 26 [.slice Aa22 σ.1.length cc23, .slice Aa44 t42.length cc45, .slice none ([] : List Sapi_Sym).length 0], own 3 (eI .i64) Aa44 cc45 t42, own 39 eSapi_Sym none 0 ([] : List Sapi_Sym), own 3 (eI .i64) none 0 ([] : List Int), own 39 eSapi_Sym none 0 ([] : List Sapi_Sym), own 3 (eI .i64) none 0 ([] : List Int), own 37 (eI .u32) none 0 ([] : List Int), own 37 (eI .u32) Aa22 cc23 σ.1, own 39 eSapi_Sym none 0 ([] : List Sapi_Sym), own 3 (eI .i64) none 0 ([] : List Int), own 37 (eI .u32) none 0 ([] : List Int), box g2 26 [.slice none ([] : List Int).length 0, .slice none ([] : List Int).length 0, .slice none ([] : List Sapi_Sym).length 0]]) hl53 (by exact ⟨hs.keep [2, 6, 7, 8, 9] (by kernel_rfl), hw⟩) ?_
 rintro ⟨l54, v55⟩ a w ⟨hs, hw⟩ o H hr53
 replace hs : Slots a 134 [(2, .slice A2 l2.length c2), (6, .pointer (some (⟨g2, 0, none⟩ : Addr))), (7, .pointer (some (⟨g27, 0, none⟩ : Addr))), (8, .int .i64 y39), (9, .int .i64 v55)] := hs
 replace hw : St [] w0 w [box g27 26 [.slice Aa22 l54.length cc23, .slice Aa44 t42.length cc45, .slice none ([] : List Sapi_Sym).length 0], own 3 (eI .i64) Aa44 cc45 t42, own 39 eSapi_Sym none 0 ([] : List Sapi_Sym), own 3 (eI .i64) none 0 ([] : List Int), own 39 eSapi_Sym none 0 ([] : List Sapi_Sym), own 3 (eI .i64) none 0 ([] : List Int), own 37 (eI .u32) none 0 ([] : List Int), own 37 (eI .u32) Aa22 cc23 l54, own 39 eSapi_Sym none 0 ([] : List Sapi_Sym), own 3 (eI .i64) none 0 ([] : List Int), own 37 (eI .u32) none 0 ([] : List Int), box g2 26 [.slice none ([] : List Int).length 0, .slice none ([] : List Int).length 0, .slice none ([] : List Sapi_Sym).length 0]] := hw
 replace H : rivetref09_Fit.b53 t42 y39 l54 v55 = some o := H
 unfold rivetref09_Fit.b53 at H
 refine go_seq_k fun K56 hK56 => ?_
 refine go_seq_k fun K57 hK57 => ?_
 refine go_region ?_
 refine go_pvs 0 2 [2, 6, 7, 8, 9, 29, 30] hs (L' := [(2, .slice A2 l2.length c2), (6, .pointer (some (⟨g2, 0, none⟩ : Addr))), (7, .pointer (some (⟨g27, 0, none⟩ : Addr))), (8, .int .i64 y39), (9, .int .i64 v55), (29, .int .i64 v55), (30, .pointer (some (((⟨g27, 0, none⟩ : Addr) : Addr).add 1)))]) (by kernel_rfl) ?_ rfl
 clear hs; intro a hs
 refine go_run hs (op := (Op.load 23 (Operand.tmp 30))) (ty := 23) (dst := some 31) (g := none) (by kernel_rfl) (by kernel_rfl) (by kernel_rfl) (x_bld (g := g27) (o := 1) (p := ((⟨g27, 0, none⟩ : Addr) : Addr).add 1) (v := .slice Aa44 t42.length cc45) (hw.up 0) (by kernel_rfl) rfl (by kernel_rfl) (by kernel_rfl)) [2, 6, 7, 8, 9, 29, 31] (L' := [(2, .slice A2 l2.length c2), (6, .pointer (some (⟨g2, 0, none⟩ : Addr))), (7, .pointer (some (⟨g27, 0, none⟩ : Addr))), (8, .int .i64 y39), (9, .int .i64 v55), (29, .int .i64 v55), (31, .slice Aa44 t42.length cc45)]) (by kernel_rfl) ?_
 clear hs; intro a hs
 refine go_pvs 3 5 [2, 6, 7, 8, 9, 33] hs (L' := [(2, .slice A2 l2.length c2), (6, .pointer (some (⟨g2, 0, none⟩ : Addr))), (7, .pointer (some (⟨g27, 0, none⟩ : Addr))), (8, .int .i64 y39), (9, .int .i64 v55), (33, .bool (decide (v55 < (t42.length : Int))))]) (by kernel_rfl) ?_ rfl
 clear hs; intro a hs
 refine go_end (by kernel_rfl) ?_
 refine hK57 _ _ ?_
 refine go_cond hs (decide (v55 < (t42.length : Int))) (by kernel_rfl) (fun hc => ?_) (fun hc => ?_)
 ·replace H := ite_t H (of_decide_eq_true hc)
  have hb58 := hc
  rw [hb58] at hs
  refine wp_skip ?_
  refine hK56 _ _ ?_
  refine go_seq_k fun K59 hK59 => ?_
  refine wp_block ?_
  refine d_region [22] [(true, [0, 1, 2, 3, 4, 5, 6, 7, 8, 9, 10, 11, 12, 13, 14, 15, 16, 17, 18, 19, 20, 21], 22)] [] (by kernel_rfl) (by kernel_rfl) (fun c a d v w h => by cases d <;> exact h) ?_
  refine d_seg ?_
  refine c_pvs [0] [1, 2, 3, 4, 5, 6, 7, 8, 9, 10, 11, 12, 13, 14, 15, 16, 17, 18, 19, 20, 21] [2, 6, 7, 8, 9, 36] hs (L' := [(2, .slice A2 l2.length c2), (6, .pointer (some (⟨g2, 0, none⟩ : Addr))), (7, .pointer (some (⟨g27, 0, none⟩ : Addr))), (8, .int .i64 y39), (9, .int .i64 v55), (36, .pointer (some (((⟨g27, 0, none⟩ : Addr) : Addr).add 0)))]) (by kernel_rfl) ?_ (by kernel_rfl)
  clear hs; intro a hs
  refine d_run hs (op := (Op.load 22 (Operand.tmp 36))) (ty := 22) (dst := some 37) (g := none) (by kernel_rfl) (by kernel_rfl) (by kernel_rfl) (fun wx hbx => (x_bldD (g := g27) (o := 0) (p := ((⟨g27, 0, none⟩ : Addr) : Addr).add 0) (v := .slice Aa22 l54.length cc23) (hw.up 0) hbx (by kernel_rfl) rfl (by kernel_rfl) (by kernel_rfl))) [2, 6, 7, 8, 9, 37] (L' := [(2, .slice A2 l2.length c2), (6, .pointer (some (⟨g2, 0, none⟩ : Addr))), (7, .pointer (some (⟨g27, 0, none⟩ : Addr))), (8, .int .i64 y39), (9, .int .i64 v55), (37, .slice Aa22 l54.length cc23)]) (by kernel_rfl) ?_
  clear hs; intro a hs
  refine c_pvs [2] [3, 4, 5, 6, 7, 8, 9, 10, 11, 12, 13, 14, 15, 16, 17, 18, 19, 20, 21] [2, 6, 7, 8, 9, 37, 38] hs (L' := [(2, .slice A2 l2.length c2), (6, .pointer (some (⟨g2, 0, none⟩ : Addr))), (7, .pointer (some (⟨g27, 0, none⟩ : Addr))), (8, .int .i64 y39), (9, .int .i64 v55), (37, .slice Aa22 l54.length cc23), (38, .pointer (some (((⟨g27, 0, none⟩ : Addr) : Addr).add 1)))]) (by kernel_rfl) ?_ (by kernel_rfl)
  clear hs; intro a hs
  refine d_run hs (op := (Op.load 23 (Operand.tmp 38))) (ty := 23) (dst := some 39) (g := none) (by kernel_rfl) (by kernel_rfl) (by kernel_rfl) (fun wx hbx => (x_bldD (g := g27) (o := 1) (p := ((⟨g27, 0, none⟩ : Addr) : Addr).add 1) (v := .slice Aa44 t42.length cc45) (hw.up 0) hbx (by kernel_rfl) rfl (by kernel_rfl) (by kernel_rfl))) [2, 6, 7, 8, 9, 37, 39] (L' := [(2, .slice A2 l2.length c2), (6, .pointer (some (⟨g2, 0, none⟩ : Addr))), (7, .pointer (some (⟨g27, 0, none⟩ : Addr))), (8, .int .i64 y39), (9, .int .i64 v55), (37, .slice Aa22 l54.length cc23), (39, .slice Aa44 t42.length cc45)]) (by kernel_rfl) ?_
  clear hs; intro a hs
  refine c_pvs [4] [5, 6, 7, 8, 9, 10, 11, 12, 13, 14, 15, 16, 17, 18, 19, 20, 21] [2, 6, 7, 8, 9, 37, 39, 40] hs (L' := [(2, .slice A2 l2.length c2), (6, .pointer (some (⟨g2, 0, none⟩ : Addr))), (7, .pointer (some (⟨g27, 0, none⟩ : Addr))), (8, .int .i64 y39), (9, .int .i64 v55), (37, .slice Aa22 l54.length cc23), (39, .slice Aa44 t42.length cc45), (40, .int .i64 v55)]) (by kernel_rfl) ?_ (by kernel_rfl)
  clear hs; intro a hs
  obtain ⟨hp60, H⟩ := ite_only H
  obtain ⟨ad61, rfl⟩ := (Rd.of_own (hw.up 1)).some hp60.1 hp60.2
  refine d_run hs (op := (Op.indexAddr 23 (Operand.tmp 39) (Operand.tmp 40))) (ty := 0) (dst := some 41) (g := none) (by kernel_rfl) (by kernel_rfl) (by kernel_rfl) (fun wx hbx => (x_idx (T := 3) (sz := 1) (a := ad61) (n := t42.length) (cap := cc45) (k := .i64) (i := v55) (by kernel_rfl) (by kernel_rfl) (by kernel_rfl) (by kernel_rfl) hp60.1 hp60.2)) [2, 6, 7, 8, 9, 37, 41] (L' := [(2, .slice A2 l2.length c2), (6, .pointer (some (⟨g2, 0, none⟩ : Addr))), (7, .pointer (some (⟨g27, 0, none⟩ : Addr))), (8, .int .i64 y39), (9, .int .i64 v55), (37, .slice Aa22 l54.length cc23), (41, .pointer (some (ad61.add (v55.toNat * 1))))]) (by kernel_rfl) ?_
  clear hs; intro a hs
  refine d_run hs (op := (Op.load 3 (Operand.tmp 41))) (ty := 3) (dst := some 42) (g := none) (by kernel_rfl) (by kernel_rfl) (by kernel_rfl) (fun wx hbx => (x_ld (E := (eI .i64)) (off := 0) (p := ad61.add (v55.toNat * 1)) (v := .int .i64 (ix (eI .i64).d t42 v55)) (Rd.bn (Rd.of_own (hw.up 1)) hbx) hp60.1 hp60.2 (by kernel_rfl) rfl (by kernel_rfl) (by kernel_rfl))) [2, 6, 7, 8, 9, 37, 42] (L' := [(2, .slice A2 l2.length c2), (6, .pointer (some (⟨g2, 0, none⟩ : Addr))), (7, .pointer (some (⟨g27, 0, none⟩ : Addr))), (8, .int .i64 y39), (9, .int .i64 v55), (37, .slice Aa22 l54.length cc23), (42, .int .i64 (ix (eI .i64).d t42 v55))]) (by kernel_rfl) ?_
  clear hs; intro a hs
  refine c_pvs [7] [8, 9, 10, 11, 12, 13, 14, 15, 16, 17, 18, 19, 20, 21] [2, 6, 7, 8, 9, 37, 42, 43] hs (L' := [(2, .slice A2 l2.length c2), (6, .pointer (some (⟨g2, 0, none⟩ : Addr))), (7, .pointer (some (⟨g27, 0, none⟩ : Addr))), (8, .int .i64 y39), (9, .int .i64 v55), (37, .slice Aa22 l54.length cc23), (42, .int .i64 (ix (eI .i64).d t42 v55)), (43, .pointer (some (((⟨g27, 0, none⟩ : Addr) : Addr).add 0)))]) (by kernel_rfl) ?_ (by kernel_rfl)
  clear hs; intro a hs
  refine d_run hs (op := (Op.load 22 (Operand.tmp 43))) (ty := 22) (dst := some 44) (g := none) (by kernel_rfl) (by kernel_rfl) (by kernel_rfl) (fun wx hbx => (x_bldD (g := g27) (o := 0) (p := ((⟨g27, 0, none⟩ : Addr) : Addr).add 0) (v := .slice Aa22 l54.length cc23) (hw.up 0) hbx (by kernel_rfl) rfl (by kernel_rfl) (by kernel_rfl))) [2, 6, 7, 8, 9, 37, 42, 44] (L' := [(2, .slice A2 l2.length c2), (6, .pointer (some (⟨g2, 0, none⟩ : Addr))), (7, .pointer (some (⟨g27, 0, none⟩ : Addr))), (8, .int .i64 y39), (9, .int .i64 v55), (37, .slice Aa22 l54.length cc23), (42, .int .i64 (ix (eI .i64).d t42 v55)), (44, .slice Aa22 l54.length cc23)]) (by kernel_rfl) ?_
  clear hs; intro a hs
  refine c_pvs [9] [10, 11, 12, 13, 14, 15, 16, 17, 18, 19, 20, 21] [2, 6, 7, 8, 9, 37, 42, 44, 45] hs (L' := [(2, .slice A2 l2.length c2), (6, .pointer (some (⟨g2, 0, none⟩ : Addr))), (7, .pointer (some (⟨g27, 0, none⟩ : Addr))), (8, .int .i64 y39), (9, .int .i64 v55), (37, .slice Aa22 l54.length cc23), (42, .int .i64 (ix (eI .i64).d t42 v55)), (44, .slice Aa22 l54.length cc23), (45, .pointer (some (((⟨g27, 0, none⟩ : Addr) : Addr).add 1)))]) (by kernel_rfl) ?_ (by kernel_rfl)
  clear hs; intro a hs
  refine d_run hs (op := (Op.load 23 (Operand.tmp 45))) (ty := 23) (dst := some 46) (g := none) (by kernel_rfl) (by kernel_rfl) (by kernel_rfl) (fun wx hbx => (x_bldD (g := g27) (o := 1) (p := ((⟨g27, 0, none⟩ : Addr) : Addr).add 1) (v := .slice (some ad61) t42.length cc45) (hw.up 0) hbx (by kernel_rfl) rfl (by kernel_rfl) (by kernel_rfl))) [2, 6, 7, 8, 9, 37, 42, 44, 46] (L' := [(2, .slice A2 l2.length c2), (6, .pointer (some (⟨g2, 0, none⟩ : Addr))), (7, .pointer (some (⟨g27, 0, none⟩ : Addr))), (8, .int .i64 y39), (9, .int .i64 v55), (37, .slice Aa22 l54.length cc23), (42, .int .i64 (ix (eI .i64).d t42 v55)), (44, .slice Aa22 l54.length cc23), (46, .slice (some ad61) t42.length cc45)]) (by kernel_rfl) ?_
  clear hs; intro a hs
  refine c_pvs [11] [12, 13, 14, 15, 16, 17, 18, 19, 20, 21] [2, 6, 7, 8, 9, 37, 42, 44, 46, 47] hs (L' := [(2, .slice A2 l2.length c2), (6, .pointer (some (⟨g2, 0, none⟩ : Addr))), (7, .pointer (some (⟨g27, 0, none⟩ : Addr))), (8, .int .i64 y39), (9, .int .i64 v55), (37, .slice Aa22 l54.length cc23), (42, .int .i64 (ix (eI .i64).d t42 v55)), (44, .slice Aa22 l54.length cc23), (46, .slice (some ad61) t42.length cc45), (47, .int .i64 v55)]) (by kernel_rfl) ?_ (by kernel_rfl)
  clear hs; intro a hs
  obtain ⟨hp62, H⟩ := ite_only H
  refine d_run hs (op := (Op.indexAddr 23 (Operand.tmp 46) (Operand.tmp 47))) (ty := 0) (dst := some 48) (g := none) (by kernel_rfl) (by kernel_rfl) (by kernel_rfl) (fun wx hbx => (x_idx (T := 3) (sz := 1) (a := ad61) (n := t42.length) (cap := cc45) (k := .i64) (i := v55) (by kernel_rfl) (by kernel_rfl) (by kernel_rfl) (by kernel_rfl) hp62.1 hp62.2)) [2, 6, 7, 8, 9, 37, 42, 44, 48] (L' := [(2, .slice A2 l2.length c2), (6, .pointer (some (⟨g2, 0, none⟩ : Addr))), (7, .pointer (some (⟨g27, 0, none⟩ : Addr))), (8, .int .i64 y39), (9, .int .i64 v55), (37, .slice Aa22 l54.length cc23), (42, .int .i64 (ix (eI .i64).d t42 v55)), (44, .slice Aa22 l54.length cc23), (48, .pointer (some (ad61.add (v55.toNat * 1))))]) (by kernel_rfl) ?_
  clear hs; intro a hs
  refine d_run hs (op := (Op.load 3 (Operand.tmp 48))) (ty := 3) (dst := some 49) (g := none) (by kernel_rfl) (by kernel_rfl) (by kernel_rfl) (fun wx hbx => (x_ld (E := (eI .i64)) (off := 0) (p := ad61.add (v55.toNat * 1)) (v := .int .i64 (ix (eI .i64).d t42 v55)) (Rd.bn (Rd.of_own (hw.up 1)) hbx) hp62.1 hp62.2 (by kernel_rfl) rfl (by kernel_rfl) (by kernel_rfl))) [2, 6, 7, 8, 9, 37, 42, 44, 49] (L' := [(2, .slice A2 l2.length c2), (6, .pointer (some (⟨g2, 0, none⟩ : Addr))), (7, .pointer (some (⟨g27, 0, none⟩ : Addr))), (8, .int .i64 y39), (9, .int .i64 v55), (37, .slice Aa22 l54.length cc23), (42, .int .i64 (ix (eI .i64).d t42 v55)), (44, .slice Aa22 l54.length cc23), (49, .int .i64 (ix (eI .i64).d t42 v55))]) (by kernel_rfl) ?_
  clear hs; intro a hs
  obtain ⟨hp63, H⟩ := ite_only H
  obtain ⟨ad64, rfl⟩ := (Rd.of_own (hw.up 7)).some hp63.1 hp63.2
  refine d_run hs (op := (Op.indexAddr 22 (Operand.tmp 44) (Operand.tmp 49))) (ty := 0) (dst := some 50) (g := none) (by kernel_rfl) (by kernel_rfl) (by kernel_rfl) (fun wx hbx => (x_idx (T := 37) (sz := 1) (a := ad64) (n := l54.length) (cap := cc23) (k := .i64) (i := (ix (eI .i64).d t42 v55)) (by kernel_rfl) (by kernel_rfl) (by kernel_rfl) (by kernel_rfl) hp63.1 hp63.2)) [2, 6, 7, 8, 9, 37, 42, 50] (L' := [(2, .slice A2 l2.length c2), (6, .pointer (some (⟨g2, 0, none⟩ : Addr))), (7, .pointer (some (⟨g27, 0, none⟩ : Addr))), (8, .int .i64 y39), (9, .int .i64 v55), (37, .slice (some ad64) l54.length cc23), (42, .int .i64 (ix (eI .i64).d t42 v55)), (50, .pointer (some (ad64.add ((ix (eI .i64).d t42 v55).toNat * 1))))]) (by kernel_rfl) ?_
  clear hs; intro a hs
  refine d_run hs (op := (Op.load 37 (Operand.tmp 50))) (ty := 37) (dst := some 51) (g := none) (by kernel_rfl) (by kernel_rfl) (by kernel_rfl) (fun wx hbx => (x_ld (E := (eI .u32)) (off := 0) (p := ad64.add ((ix (eI .i64).d t42 v55).toNat * 1)) (v := .int .u32 (ix (eI .u32).d l54 (ix (eI .i64).d t42 v55))) (Rd.bn (Rd.of_own (hw.up 7)) hbx) hp63.1 hp63.2 (by kernel_rfl) rfl (by kernel_rfl) (by kernel_rfl))) [2, 6, 7, 8, 9, 37, 42, 51] (L' := [(2, .slice A2 l2.length c2), (6, .pointer (some (⟨g2, 0, none⟩ : Addr))), (7, .pointer (some (⟨g27, 0, none⟩ : Addr))), (8, .int .i64 y39), (9, .int .i64 v55), (37, .slice (some ad64) l54.length cc23), (42, .int .i64 (ix (eI .i64).d t42 v55)), (51, .int .u32 (ix (eI .u32).d l54 (ix (eI .i64).d t42 v55)))]) (by kernel_rfl) ?_
  clear hs; intro a hs
  refine c_pvs [16, 17, 18, 19] [20, 21] [2, 6, 7, 8, 9, 37, 42, 51, 55] hs (L' := [(2, .slice A2 l2.length c2), (6, .pointer (some (⟨g2, 0, none⟩ : Addr))), (7, .pointer (some (⟨g27, 0, none⟩ : Addr))), (8, .int .i64 y39), (9, .int .i64 v55), (37, .slice (some ad64) l54.length cc23), (42, .int .i64 (ix (eI .i64).d t42 v55)), (51, .int .u32 (ix (eI .u32).d l54 (ix (eI .i64).d t42 v55))), (55, .int .u32 (wu32 (w64 ((w64 (4 * y39)) + 1))))]) (by kernel_rfl) ?_ (by kernel_rfl)
  clear hs; intro a hs
  obtain ⟨hp65, H⟩ := ite_only H
  refine d_run hs (op := (Op.binOp BinOp.rem 37 (Operand.tmp 51) (Operand.tmp 55) 37)) (ty := 37) (dst := some 56) (g := none) (by kernel_rfl) (by kernel_rfl) (by kernel_rfl) (fun wx hbx => (x_rem (k := .u32) (m := (ix (eI .u32).d l54 (ix (eI .i64).d t42 v55))) (n := wu32 (w64 ((w64 (4 * y39)) + 1))) (by kernel_rfl) (by kernel_rfl) hp65)) [2, 6, 7, 8, 9, 37, 42, 56] (L' := [(2, .slice A2 l2.length c2), (6, .pointer (some (⟨g2, 0, none⟩ : Addr))), (7, .pointer (some (⟨g27, 0, none⟩ : Addr))), (8, .int .i64 y39), (9, .int .i64 v55), (37, .slice (some ad64) l54.length cc23), (42, .int .i64 (ix (eI .i64).d t42 v55)), (56, .int .u32 ((ix (eI .u32).d l54 (ix (eI .i64).d t42 v55)).tmod (wu32 (w64 ((w64 (4 * y39)) + 1)))))]) (by kernel_rfl) ?_
  clear hs; intro a hs
  obtain ⟨hp66, H⟩ := ite_only H
  refine d_run hs (op := (Op.indexAddr 22 (Operand.tmp 37) (Operand.tmp 42))) (ty := 0) (dst := some 57) (g := none) (by kernel_rfl) (by kernel_rfl) (by kernel_rfl) (fun wx hbx => (x_idx (T := 37) (sz := 1) (a := ad64) (n := l54.length) (cap := cc23) (k := .i64) (i := (ix (eI .i64).d t42 v55)) (by kernel_rfl) (by kernel_rfl) (by kernel_rfl) (by kernel_rfl) hp66.1 hp66.2)) [2, 6, 7, 8, 9, 56, 57] (L' := [(2, .slice A2 l2.length c2), (6, .pointer (some (⟨g2, 0, none⟩ : Addr))), (7, .pointer (some (⟨g27, 0, none⟩ : Addr))), (8, .int .i64 y39), (9, .int .i64 v55), (56, .int .u32 ((ix (eI .u32).d l54 (ix (eI .i64).d t42 v55)).tmod (wu32 (w64 ((w64 (4 * y39)) + 1))))), (57, .pointer (some (ad64.add ((ix (eI .i64).d t42 v55).toNat * 1))))]) (by kernel_rfl) ?_
  clear hs; intro a hs
  refine c_end ?_
  intro wq hbq
  replace hw := hw.behind hbq
  replace hw := hw.up 7
  obtain ⟨wd67, hx68, hw⟩ := x_put (P := Tryd.prog) (ty := 0) (t := 37) (x := (Operand.tmp 57)) (y := (Operand.tmp 56)) (off := 0) (p := ad64.add ((ix (eI .i64).d t42 v55).toNat * 1)) (v := .int .u32 ((ix (eI .u32).d l54 (ix (eI .i64).d t42 v55)).tmod (wu32 (w64 ((w64 (4 * y39)) + 1))))) (vs := [.int .u32 ((ix (eI .u32).d l54 (ix (eI .i64).d t42 v55)).tmod (wu32 (w64 ((w64 (4 * y39)) + 1))))]) (i := (ix (eI .i64).d t42 v55)) (e' := ((ix (eI .u32).d l54 (ix (eI .i64).d t42 v55)).tmod (wu32 (w64 ((w64 (4 * y39)) + 1))) : Int)) hs hw rfl hp66.1 hp66.2 (by kernel_rfl) rfl (by kernel_rfl) rfl (by kernel_rfl) (Nat.le_of_ble_eq_true rfl) (by simp [Value.oneCell']) (by kernel_rfl)
  refine p_unit hs (op := (Op.store 37 (Operand.tmp 57) (Operand.tmp 56))) (ty := 0) (dst := none) (g := none) (by kernel_rfl) (by kernel_rfl) (by kernel_rfl) hx68 [2, 6, 7, 8, 9] (L' := [(2, .slice A2 l2.length c2), (6, .pointer (some (⟨g2, 0, none⟩ : Addr))), (7, .pointer (some (⟨g27, 0, none⟩ : Addr))), (8, .int .i64 y39), (9, .int .i64 v55)]) (by kernel_rfl) ?_
  clear hs; intro a hs
  replace hw : St [] w0 wd67 [own 37 (eI .u32) (some ad64) cc23 (l54.set ((ix (eI .i64).d t42 v55) : Int).toNat ((ix (eI .u32).d l54 (ix (eI .i64).d t42 v55)).tmod (wu32 (w64 ((w64 (4 * y39)) + 1))))), box g27 26 [.slice (some ad64) (l54.set ((ix (eI .i64).d t42 v55) : Int).toNat ((ix (eI .u32).d l54 (ix (eI .i64).d t42 v55)).tmod (wu32 (w64 ((w64 (4 * y39)) + 1))))).length cc23, .slice (some ad61) t42.length cc45, .slice none ([] : List Sapi_Sym).length 0], own 3 (eI .i64) (some ad61) cc45 t42, own 39 eSapi_Sym none 0 ([] : List Sapi_Sym), own 3 (eI .i64) none 0 ([] : List Int), own 39 eSapi_Sym none 0 ([] : List Sapi_Sym), own 3 (eI .i64) none 0 ([] : List Int), own 37 (eI .u32) none 0 ([] : List Int), own 39 eSapi_Sym none 0 ([] : List Sapi_Sym), own 3 (eI .i64) none 0 ([] : List Int), own 37 (eI .u32) none 0 ([] : List Int), box g2 26 [.slice none ([] : List Int).length 0, .slice none ([] : List Int).length 0, .slice none ([] : List Sapi_Sym).length 0]] := by rw [show (l54.set ((ix (eI .i64).d t42 v55) : Int).toNat ((ix (eI .u32).d l54 (ix (eI .i64).d t42 v55)).tmod (wu32 (w64 ((w64 (4 * y39)) + 1))))).length = (l54).length from List.length_set]; exact hw
  refine c_done ⟨.inl (by kernel_rfl), ?_⟩
  clear hbq
  refine d_last ?_
  refine c_end ?_
  intro wq hbq
  replace hw := hw.behind hbq
  refine ib_norm ?_
  refine hK59 _ _ ?_
  refine go_region ?_
  refine go_pvs 0 3 [2, 6, 7, 8, 9] hs (L' := [(2, .slice A2 l2.length c2), (6, .pointer (some (⟨g2, 0, none⟩ : Addr))), (7, .pointer (some (⟨g27, 0, none⟩ : Addr))), (8, .int .i64 y39), (9, .int .i64 (w64 (v55 + 1)))]) (by kernel_rfl) ?_ rfl
  clear hs; intro a hs
  refine go_end (by kernel_rfl) ?_
  replace hw := hw.up 11
  replace hw := hw.up 11
  replace hw := hw.up 11
  replace hw := hw.up 11
  replace hw := hw.up 4
  replace hw := hw.up 11
  replace hw := hw.up 11
  replace hw := hw.up 11
  replace hw := hw.up 11
  replace hw := hw.up 11
  replace hw := hw.up 11
  replace hw := hw.up 11
  replace hw := hw.only 12
  exact round_end (l54.set ((ix (eI .i64).d t42 v55) : Int).toNat ((ix (eI .u32).d l54 (ix (eI .i64).d t42 v55)).tmod (wu32 (w64 ((w64 (4 * y39)) + 1)))), w64 (v55 + 1)) (Option.some.inj H).symm ⟨hs.keep [2, 6, 7, 8, 9] (by kernel_rfl), hw⟩
 ·replace H := ite_f H (of_decide_eq_false hc)
  have hb69 := hc
  rw [hb69] at hs
  refine wp_exit ?_
  refine th_exit ?_
  refine th_exit ?_
  refine in_block ?_
  replace hw := hw.up 11
  replace hw := hw.up 11
  replace hw := hw.up 11
  replace hw := hw.up 11
  replace hw := hw.up 11
  replace hw := hw.up 11
  replace hw := hw.up 11
  replace hw := hw.up 11
  replace hw := hw.up 11
  replace hw := hw.up 11
  replace hw := hw.up 11
  replace hw := hw.up 11
  replace hw := hw.only 12
  rw [← hr53 _ (Option.some.inj H).symm] at HX53
  exact hJ1 l54 _ _ (hs.keep [2, 6, 7, 8] (by kernel_rfl)) hw HX53

end Go.Proofs.YtmfnololpfdfdaaDoor.T09
