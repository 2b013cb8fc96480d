/- YtheccnbamcdpmaaDoorT12: Go functions told as plain ones, each with a proof that its call comes to what is told, part 2. Condition of each: that the plain function comes to a value. -/
import Derived.Test.YtheccnbamcdpmaaDoorT12a
namespace Go.Proofs.YtheccnbamcdpmaaDoor.T12
open Go Go.RowKit Go.Proofs.YtheccnbamcdpmaaDoor.E
set_option linter.unusedVariables false
set_option linter.unusedSimpArgs false

/-! rivet/rivetref09.May: function 29 -/
noncomputable def rivetref09_May.b26 (a0 : Sapi_Obj) (v27 : Int) : Option (Int ⊕ (Ex Int Unit)) := (if v27 < (a0.Sites.length : Int) then (if 0 ≤ v27 ∧ v27 < (a0.Sites.length : Int) then (if 0 ≤ (ix (eI .i64).d a0.Sites v27) ∧ (ix (eI .i64).d a0.Sites v27) < (a0.Words.length : Int) then (if (w64 (ix (eI .u32).d a0.Words (ix (eI .i64).d a0.Sites v27))) > (w64 (4 * (a0.Words.length : Int))) then some (.inr (.ret 8)) else some (.inl (w64 (v27 + 1)))) else none) else none) else some (.inr (.done ())))
noncomputable def rivetref09_May.j5 (v44 : Int) : Option (Int ⊕ (Ex Int Unit)) := some (.inl (w64 (v44 + 1)))
noncomputable def rivetref09_May.j4 (v44 : Int) (v59 : Bool) : Option (Int ⊕ (Ex Int Unit)) := (if v59 = true then some (.inr (.ret 9)) else rivetref09_May.j5 v44)
noncomputable def rivetref09_May.b43 (a0 : Sapi_Obj) (v44 : Int) : Option (Int ⊕ (Ex Int Unit)) := (if v44 < (a0.Syms.length : Int) then (if 0 ≤ v44 ∧ v44 < (a0.Syms.length : Int) then ((rivetref07_Name ((ix eSapi_Sym.d a0.Syms v44).Name)).bind fun t53 => ((if t53 = true then (if v44 > 0 then (if 0 ≤ v44 ∧ v44 < (a0.Syms.length : Int) then (if 0 ≤ (w64 (v44 - 1)) ∧ (w64 (v44 - 1)) < (a0.Syms.length : Int) then rivetref09_May.j4 v44 (Op.bytesLess ((ix eSapi_Sym.d a0.Syms v44).Name).toList ((ix eSapi_Sym.d a0.Syms (w64 (v44 - 1))).Name).toList || ((ix eSapi_Sym.d a0.Syms v44).Name).toList == ((ix eSapi_Sym.d a0.Syms (w64 (v44 - 1))).Name).toList) else none) else none) else rivetref09_May.j4 v44 false) else rivetref09_May.j4 v44 true))) else none) else some (.inr (.done ())))
noncomputable def rivetref09_May.j8 (v67 : Int) : Option (Int ⊕ (Ex Int Unit)) := some (.inl (w64 (v67 + 1)))
noncomputable def rivetref09_May.j7 (v67 : Int) (v79 : Bool) : Option (Int ⊕ (Ex Int Unit)) := (if v79 = true then some (.inr (.ret 8)) else rivetref09_May.j8 v67)
noncomputable def rivetref09_May.b66 (a0 : Sapi_Obj) (v67 : Int) : Option (Int ⊕ (Ex Int Unit)) := (if v67 < (a0.Syms.length : Int) then (if 0 ≤ v67 ∧ v67 < (a0.Syms.length : Int) then (nm ((ix eSapi_Sym.d a0.Syms v67).At) fun y75 => (if y75 < 0 then rivetref09_May.j7 v67 true else (if y75 > (w64 (4 * (a0.Words.length : Int))) then rivetref09_May.j7 v67 true else rivetref09_May.j7 v67 ((y75.tmod 4) != 0)))) else none) else some (.inr (.done ())))
noncomputable def rivetref09_May.j9 : Option Int := some 0
noncomputable def rivetref09_May.j6 (a0 : Sapi_Obj) : Option Int := ((loopO (fun (σ : Int) => rivetref09_May.b66 a0 σ) 0).bind fun e => match e with | .ret x => some x | .done e => rivetref09_May.j9)
noncomputable def rivetref09_May.j3 (a0 : Sapi_Obj) : Option Int := ((loopO (fun (σ : Int) => rivetref09_May.b43 a0 σ) 0).bind fun e => match e with | .ret x => some x | .done e => rivetref09_May.j6 a0)
noncomputable def rivetref09_May.j2 (a0 : Sapi_Obj) : Option Int := ((rivetref08_Rise a0.Sites (a0.Words.length : Int)).bind fun t17 => ((if t17 = true then ((loopO (fun (σ : Int) => rivetref09_May.b26 a0 σ) 0).bind fun e => match e with | .ret x => some x | .done e => rivetref09_May.j3 a0) else some 7)))
noncomputable def rivetref09_May.j1 (a0 : Sapi_Obj) (v10 : Bool) : Option Int := (if v10 = true then some 2 else rivetref09_May.j2 a0)
noncomputable def rivetref09_May (a0 : Sapi_Obj) : Option Int := (if (a0.Words.length : Int) > 1024 then rivetref09_May.j1 a0 true else rivetref09_May.j1 a0 (decide ((a0.Syms.length : Int) > 64)))
set_option maxRecDepth 100000 in
set_option maxHeartbeats 4000000 in
theorem rivetref09_May.calls (a0 : Sapi_Obj) (A0_1 : Option Addr) (c0_1 : Nat) (A0_2 : Option Addr) (c0_2 : Nat) (A0_3 : Option Addr) (c0_3 : Nat) (r : Int) (w0 : World) (hr0_1 : Rd w0 (eI .u32) A0_1 c0_1 a0.Words) (hr0_2 : Rd w0 (eI .i64) A0_2 c0_2 a0.Sites) (hr0_3 : Rd w0 eSapi_Sym A0_3 c0_3 a0.Syms) (H : rivetref09_May a0 = some r) :
    Calls Tryd.prog 29 #[.agg #[.slice A0_1 a0.Words.length c0_1, .slice A0_2 a0.Sites.length c0_2, .slice A0_3 a0.Syms.length c0_3]] w0 fun e w' => e = .returned (.int .i64 r) ∧ St [] w0 w' [] := by
 have hw : St [] w0 w0 [] := St.nil w0
 unfold rivetref09_May at H
 refine go_fn Tryd.func29 rfl Tryd.ntmps29 ?_; intro a hs
 refine go_sk fun K1 hK1 => ?_
 obtain ⟨g2, wd3, hx4, hw⟩ := x_boxc (P := Tryd.prog) (elem := 32) (v := (Operand.tmp 0)) (ty := 0) (cs := [.slice A0_1 a0.Words.length c0_1, .slice A0_2 a0.Sites.length c0_2, .slice A0_3 a0.Syms.length c0_3]) hs hw (by kernel_rfl)
 refine go_run hs (by rfl) hx4 [0] ?_; clear hs; intro a hs
 refine go_pvs 2 [] [] hs ?_; clear hs; intro a hs
 refine go_end (hK1 _ _ ?_)
 refine go_sk fun K6 hK6 => ?_
 refine go_pvs 1 [] [(8, .pointer (some (⟨g2, 0, none⟩ : Addr)))] hs ?_; clear hs; intro a hs
 refine go_run hs (by rfl) (x_bld (g := g2) (o := 0) (p := (⟨g2, 0, none⟩ : Addr)) (v := .slice A0_1 a0.Words.length c0_1) (hw.up 0)) [8] ?_; clear hs; intro a hs
 refine go_pvs 4 [9] [(3, .int .i64 (a0.Words.length : Int))] hs ?_; clear hs; intro a hs
 refine go_end (hK6 _ _ ?_)
 refine go_seq_k fun K7 hK7 => ?_
 have hJ2 : ∀ (a : Act) (w : World), Slots a 105 [(1, .pointer (some (⟨g2, 0, none⟩ : Addr))), (3, .int .i64 (a0.Words.length : Int))] → St [] w0 w [box g2 32 [.slice A0_1 a0.Words.length c0_1, .slice A0_2 a0.Sites.length c0_2, .slice A0_3 a0.Syms.length c0_3]] → rivetref09_May.j2 a0 = some r → K7 a w := by
  intro a w hs hw H
  unfold rivetref09_May.j2 at H
  refine hK7 _ _ ?_
  refine go_seq_k fun K14 hK14 => ?_
  refine go_sk fun K15 hK15 => ?_
  refine go_pvs 1 [] [(19, .pointer (some (⟨g2, 1, none⟩ : Addr)))] hs ?_; clear hs; intro a hs
  refine go_run hs (by rfl) (x_bld (g := g2) (o := 1) (p := (⟨g2, 1, none⟩ : Addr)) (v := .slice A0_2 a0.Sites.length c0_2) (hw.up 0)) [19] ?_; clear hs; intro a hs
  refine go_pvs 3 [] [(21, .int .i64 (a0.Words.length : Int))] hs ?_; clear hs; intro a hs
  obtain ⟨t17, hx18, H⟩ := bind_some H
  refine go_call hs (by rfl) (rivetref08_Rise.calls A0_2 c0_2 a0.Sites (a0.Words.length : Int) t17 _ (hr0_2.old hw) hx18) ?_
  rintro e wd19 ⟨rfl, hw20⟩
  refine ⟨_, rfl, ?_⟩
  replace hw := hw.call hw20
  clear hs; intro a hs; replace hs := hs.rms [20, 21]
  refine go_pvs 5 [22] [(23, .bool (!t17))] hs ?_; clear hs; intro a hs
  refine go_end (hK15 _ _ ?_)
  refine go_cond hs (!t17) (fun hc => ?_) fun hc => ?_
  ·replace H := ite_f H (ff (nt hc))
   have hb21 := hc
   rw [hb21] at hs
   refine go_sp [1, 3, 23] [(2, .int .i64 7)] hs ?_; clear hs; intro a hs
   refine wp_ret ?_
   refine th_ret ?_
   obtain rfl := Option.some.inj H
   refine ret1 (t := 2) (v := .int .i64 7) hs (by kernel_rfl) (by kernel_rfl) ?_
   exact ⟨rfl, hw.only 0⟩
  ·replace H := ite_t H (nf hc)
   have hb23 := hc
   rw [hb23] at hs
   refine wp_skip ?_
   refine hK14 _ _ ?_
   refine go_seq_k fun K24 hK24 => ?_
   refine go_sp [23] [(4, .int .i64 0)] hs ?_; clear hs; intro a hs
   refine wp_block ?_
   obtain ⟨e26, hl26, HX26⟩ := bind_some H
   have hJ3 : ∀ (a : Act) (w : World), Slots a 105 [(1, .pointer (some (⟨g2, 0, none⟩ : Addr))), (3, .int .i64 (a0.Words.length : Int))] → St [] w0 w [box g2 32 [.slice A0_1 a0.Words.length c0_1, .slice A0_2 a0.Sites.length c0_2, .slice A0_3 a0.Syms.length c0_3]] → rivetref09_May.j3 a0 = some r → K24 a w := by
    intro a w hs hw H
    unfold rivetref09_May.j3 at H
    refine hK24 _ _ ?_
    refine go_seq_k fun K41 hK41 => ?_
    refine go_sp [] [(5, .int .i64 0)] hs ?_; clear hs; intro a hs
    refine wp_block ?_
    obtain ⟨e43, hl43, HX43⟩ := bind_some H
    have hJ6 : ∀ (a : Act) (w : World), Slots a 105 [(1, .pointer (some (⟨g2, 0, none⟩ : Addr))), (3, .int .i64 (a0.Words.length : Int))] → St [] w0 w [box g2 32 [.slice A0_1 a0.Words.length c0_1, .slice A0_2 a0.Sites.length c0_2, .slice A0_3 a0.Syms.length c0_3]] → rivetref09_May.j6 a0 = some r → K41 a w := by
     intro a w hs hw H
     unfold rivetref09_May.j6 at H
     refine hK41 _ _ ?_
     refine go_seq_k fun K64 hK64 => ?_
     refine go_sp [] [(6, .int .i64 0)] hs ?_; clear hs; intro a hs
     refine wp_block ?_
     obtain ⟨e66, hl66, HX66⟩ := bind_some H
     have hJ9 : ∀ (a : Act) (w : World), Slots a 105 [] → St [] w0 w [box g2 32 [.slice A0_1 a0.Words.length c0_1, .slice A0_2 a0.Sites.length c0_2, .slice A0_3 a0.Syms.length c0_3]] → rivetref09_May.j9 = some r → K64 a w := by
      intro a w hs hw H
      unfold rivetref09_May.j9 at H
      refine hK64 _ _ ?_
      refine go_sp [] [(2, .int .i64 0)] hs ?_; clear hs; intro a hs
      refine wp_ret ?_
      obtain rfl := Option.some.inj H
      refine ret1 (t := 2) (v := .int .i64 0) hs (by kernel_rfl) (by kernel_rfl) ?_
      exact ⟨rfl, hw.only 0⟩
     clear H
     refine go_loop (σ := Int) (fun σ a w => Slots a 105 [(1, .pointer (some (⟨g2, 0, none⟩ : Addr))), (3, .int .i64 (a0.Words.length : Int)), (6, .int .i64 σ)] ∧ St [] w0 w [box g2 32 [.slice A0_1 a0.Words.length c0_1, .slice A0_2 a0.Sites.length c0_2, .slice A0_3 a0.Syms.length c0_3]]) hl66 (by exact ⟨hs.kx, hw⟩) ?_
     rintro v67 a w ⟨hs, hw⟩ o H hr66
     replace hs : Slots a 105 [(1, .pointer (some (⟨g2, 0, none⟩ : Addr))), (3, .int .i64 (a0.Words.length : Int)), (6, .int .i64 v67)] := hs
     replace hw : St [] w0 w [box g2 32 [.slice A0_1 a0.Words.length c0_1, .slice A0_2 a0.Sites.length c0_2, .slice A0_3 a0.Syms.length c0_3]] := hw
     replace H : rivetref09_May.b66 a0 v67 = some o := H
     unfold rivetref09_May.b66 at H
     refine go_seq_k fun K68 hK68 => ?_
     refine go_sk fun K69 hK69 => ?_
     refine go_pvs 2 [] [(79, .int .i64 v67), (80, .pointer (some (⟨g2, 2, none⟩ : Addr)))] hs ?_; clear hs; intro a hs
     refine go_run hs (by rfl) (x_bld (g := g2) (o := 2) (p := (⟨g2, 2, none⟩ : Addr)) (v := .slice A0_3 a0.Syms.length c0_3) (hw.up 0)) [80] ?_; clear hs; intro a hs
     refine go_pvs 5 [79, 81] [(83, .bool (decide (v67 < (a0.Syms.length : Int))))] hs ?_; clear hs; intro a hs
     refine go_end (hK69 _ _ ?_)
     refine go_cond hs (decide (v67 < (a0.Syms.length : Int))) (fun hc => ?_) fun hc => ?_
     ·replace H := ite_t H (of_decide_eq_true hc)
      have hb70 := hc
      rw [hb70] at hs
      refine wp_skip ?_
      refine hK68 _ _ ?_
      refine go_seq_k fun K71 hK71 => ?_
      have hJ8 : ∀ (a : Act) (w : World), Slots a 105 [(1, .pointer (some (⟨g2, 0, none⟩ : Addr))), (3, .int .i64 (a0.Words.length : Int)), (6, .int .i64 v67)] → St [] w0 w [box g2 32 [.slice A0_1 a0.Words.length c0_1, .slice A0_2 a0.Sites.length c0_2, .slice A0_3 a0.Syms.length c0_3]] → rivetref09_May.j8 v67 = some o → K71 a w := by
       intro a w hs hw H
       unfold rivetref09_May.j8 at H
       refine hK71 _ _ ?_
       refine go_plain [] [(6, .int .i64 (w64 (v67 + 1)))] hs ?_; clear hs; intro a hs
       exact round_end (w64 (v67 + 1)) (Option.some.inj H).symm ⟨hs.kx, hw⟩
      refine wp_block ?_
      refine go_sk fun K72 hK72 => ?_
      refine go_pvs 1 [83] [(86, .pointer (some (⟨g2, 2, none⟩ : Addr)))] hs ?_; clear hs; intro a hs
      refine go_run hs (by rfl) (x_bld (g := g2) (o := 2) (p := (⟨g2, 2, none⟩ : Addr)) (v := .slice A0_3 a0.Syms.length c0_3) (hw.up 0)) [86] ?_; clear hs; intro a hs
      refine go_pvs 3 [] [(88, .int .i64 v67)] hs ?_; clear hs; intro a hs
      obtain ⟨hp73, H⟩ := ite_only H
      obtain ⟨ad74, rfl⟩ := (hr0_3.old hw).some hp73.1 hp73.2
      refine go_run hs (by rfl) (x_idx (T := 72) (sz := 2) (a := ad74) (n := a0.Syms.length) (cap := c0_3) (k := .i64) (i := v67) hp73) [87, 88] ?_; clear hs; intro a hs
      refine go_pvs 5 [89] [(90, .pointer (some ((ad74.add (v67.toNat * 2) : Addr).add 1)))] hs ?_; clear hs; intro a hs
      refine go_run hs (by rfl) (x_ld (off := 1) (p := (ad74.add (v67.toNat * 2) : Addr).add 1) (v := .int .i64 ((ix eSapi_Sym.d a0.Syms v67).At)) (hr0_3.old hw) hp73 (by simp only [add_add', Nat.add_assoc]; rfl)) [90] ?_; clear hs; intro a hs
      refine go_pvs 7 [91] [(7, .int .i64 ((ix eSapi_Sym.d a0.Syms v67).At))] hs ?_; clear hs; intro a hs
      obtain ⟨y75, hy75, H⟩ := nm_some H
      replace hs : Slots a 105 [(1, .pointer (some (⟨g2, 0, none⟩ : Addr))), (3, .int .i64 (a0.Words.length : Int)), (6, .int .i64 v67), (7, .int .i64 y75)] := by rw [hy75]; exact hs.kx
      refine go_end (hK72 _ _ ?_)
      refine go_seq_k fun K76 hK76 => ?_
      have hJ7 : ∀ (v79 : Bool) (a : Act) (w : World), Slots a 105 [(1, .pointer (some (⟨g2, 0, none⟩ : Addr))), (3, .int .i64 (a0.Words.length : Int)), (6, .int .i64 v67), (104, .bool v79)] → St [] w0 w [box g2 32 [.slice A0_1 a0.Words.length c0_1, .slice A0_2 a0.Sites.length c0_2, .slice (some ad74) a0.Syms.length c0_3]] → rivetref09_May.j7 v67 v79 = some o → K76 a w := by
       intro v79 a w hs hw H
       unfold rivetref09_May.j7 at H
       refine hK76 _ _ ?_
       refine go_cond hs v79 (fun hc => ?_) fun hc => ?_
       ·replace H := ite_t H hc
        have hb80 := hc
        rw [hb80] at hs
        refine go_sp [1, 3, 6, 104] [(2, .int .i64 8)] hs ?_; clear hs; intro a hs
        refine wp_ret ?_
        refine ib_ret ?_
        refine th_ret ?_
        refine th_ret ?_
        refine ib_ret ?_
        refine th_ret ?_
        rw [← hr66 _ (Option.some.inj H).symm] at HX66
        replace H : some 8 = some r := HX66
        obtain rfl := Option.some.inj H
        refine ret1 (t := 2) (v := .int .i64 8) hs (by kernel_rfl) (by kernel_rfl) ?_
        exact ⟨rfl, hw.only 0⟩
       ·replace H := ite_f H (ff hc)
        have hb82 := hc
        rw [hb82] at hs
        refine wp_skip ?_
        refine ib_norm ?_
        exact hJ8 _ _ hs.kx hw H
      refine go_region ?_
      refine go_pvs 3 [] [(94, .bool (decide (y75 < 0)))] hs ?_; clear hs; intro a hs
      cases hb77 : (decide (y75 < 0))
      ·replace H := ite_f H (of_decide_eq_false hb77)
       rw [hb77] at hs
       refine go_pvs 9 [94] [(100, .bool (decide (y75 > (w64 (4 * (a0.Words.length : Int))))))] hs ?_; clear hs; intro a hs
       cases hb78 : (decide (y75 > (w64 (4 * (a0.Words.length : Int)))))
       ·replace H := ite_f H (of_decide_eq_false hb78)
        rw [hb78] at hs
        refine go_pvs 13 [7, 100] [(104, .bool ((y75.tmod 4) != 0))] hs ?_; clear hs; intro a hs
        refine go_end ?_
        exact hJ7 ((y75.tmod 4) != 0) _ _ hs.kx hw H
       ·replace H := ite_t H (of_decide_eq_true hb78)
        rw [hb78] at hs
        refine go_pvs 13 [7, 100] [(104, .bool true)] hs ?_; clear hs; intro a hs
        refine go_end ?_
        exact hJ7 true _ _ hs.kx hw H
      ·replace H := ite_t H (of_decide_eq_true hb77)
       rw [hb77] at hs
       refine go_pvs 13 [7, 94] [(104, .bool true)] hs ?_; clear hs; intro a hs
       refine go_end ?_
       exact hJ7 true _ _ hs.kx hw H
     ·replace H := ite_f H (of_decide_eq_false hc)
      have hb83 := hc
      rw [hb83] at hs
      refine wp_exit ?_
      refine th_exit ?_
      refine th_exit ?_
      refine in_block ?_
      rw [← hr66 _ (Option.some.inj H).symm] at HX66
      exact hJ9 _ _ hs.kx hw HX66
    clear H
    refine go_loop (σ := Int) (fun σ a w => Slots a 105 [(1, .pointer (some (⟨g2, 0, none⟩ : Addr))), (3, .int .i64 (a0.Words.length : Int)), (5, .int .i64 σ)] ∧ St [] w0 w [box g2 32 [.slice A0_1 a0.Words.length c0_1, .slice A0_2 a0.Sites.length c0_2, .slice A0_3 a0.Syms.length c0_3]]) hl43 (by exact ⟨hs.kx, hw⟩) ?_
    rintro v44 a w ⟨hs, hw⟩ o H hr43
    replace hs : Slots a 105 [(1, .pointer (some (⟨g2, 0, none⟩ : Addr))), (3, .int .i64 (a0.Words.length : Int)), (5, .int .i64 v44)] := hs
    replace hw : St [] w0 w [box g2 32 [.slice A0_1 a0.Words.length c0_1, .slice A0_2 a0.Sites.length c0_2, .slice A0_3 a0.Syms.length c0_3]] := hw
    replace H : rivetref09_May.b43 a0 v44 = some o := H
    unfold rivetref09_May.b43 at H
    refine go_seq_k fun K45 hK45 => ?_
    refine go_sk fun K46 hK46 => ?_
    refine go_pvs 2 [] [(44, .int .i64 v44), (45, .pointer (some (⟨g2, 2, none⟩ : Addr)))] hs ?_; clear hs; intro a hs
    refine go_run hs (by rfl) (x_bld (g := g2) (o := 2) (p := (⟨g2, 2, none⟩ : Addr)) (v := .slice A0_3 a0.Syms.length c0_3) (hw.up 0)) [45] ?_; clear hs; intro a hs
    refine go_pvs 5 [44, 46] [(48, .bool (decide (v44 < (a0.Syms.length : Int))))] hs ?_; clear hs; intro a hs
    refine go_end (hK46 _ _ ?_)
    refine go_cond hs (decide (v44 < (a0.Syms.length : Int))) (fun hc => ?_) fun hc => ?_
    ·replace H := ite_t H (of_decide_eq_true hc)
     have hb47 := hc
     rw [hb47] at hs
     refine wp_skip ?_
     refine hK45 _ _ ?_
     refine go_seq_k fun K48 hK48 => ?_
     have hJ5 : ∀ (a : Act) (w : World), Slots a 105 [(1, .pointer (some (⟨g2, 0, none⟩ : Addr))), (3, .int .i64 (a0.Words.length : Int)), (5, .int .i64 v44)] → St [] w0 w [box g2 32 [.slice A0_1 a0.Words.length c0_1, .slice A0_2 a0.Sites.length c0_2, .slice A0_3 a0.Syms.length c0_3]] → rivetref09_May.j5 v44 = some o → K48 a w := by
      intro a w hs hw H
      unfold rivetref09_May.j5 at H
      refine hK48 _ _ ?_
      refine go_plain [] [(5, .int .i64 (w64 (v44 + 1)))] hs ?_; clear hs; intro a hs
      exact round_end (w64 (v44 + 1)) (Option.some.inj H).symm ⟨hs.kx, hw⟩
     refine wp_block ?_
     refine go_seq_k fun K49 hK49 => ?_
     have hJ4 : ∀ (v59 : Bool) (a : Act) (w : World), Slots a 105 [(1, .pointer (some (⟨g2, 0, none⟩ : Addr))), (3, .int .i64 (a0.Words.length : Int)), (5, .int .i64 v44), (78, .bool v59)] → St [] w0 w [box g2 32 [.slice A0_1 a0.Words.length c0_1, .slice A0_2 a0.Sites.length c0_2, .slice A0_3 a0.Syms.length c0_3]] → rivetref09_May.j4 v44 v59 = some o → K49 a w := by
      intro v59 a w hs hw H
      unfold rivetref09_May.j4 at H
      refine hK49 _ _ ?_
      refine go_cond hs v59 (fun hc => ?_) fun hc => ?_
      ·replace H := ite_t H hc
       have hb60 := hc
       rw [hb60] at hs
       refine go_sp [1, 3, 5, 78] [(2, .int .i64 9)] hs ?_; clear hs; intro a hs
       refine wp_ret ?_
       refine ib_ret ?_
       refine th_ret ?_
       refine th_ret ?_
       refine ib_ret ?_
       refine th_ret ?_
       rw [← hr43 _ (Option.some.inj H).symm] at HX43
       replace H : some 9 = some r := HX43
       obtain rfl := Option.some.inj H
       refine ret1 (t := 2) (v := .int .i64 9) hs (by kernel_rfl) (by kernel_rfl) ?_
       exact ⟨rfl, hw.only 0⟩
      ·replace H := ite_f H (ff hc)
       have hb62 := hc
       rw [hb62] at hs
       refine wp_skip ?_
       refine ib_norm ?_
       exact hJ5 _ _ hs.kx hw H
     refine q2_region (by kernel_rfl) (by kernel_rfl) ?_
     refine q_pvs 1 [48] [(51, .pointer (some (⟨g2, 2, none⟩ : Addr)))] hs ?_; clear hs; intro a hs
     refine q_run hs (by rfl) (fun wx hbx => (x_bld (g := g2) (o := 2) (p := (⟨g2, 2, none⟩ : Addr)) (v := .slice A0_3 a0.Syms.length c0_3) ((hw.behind hbx).up 0))) [51] ?_; clear hs; intro a hs
     refine q_pvs 3 [] [(53, .int .i64 v44)] hs ?_; clear hs; intro a hs
     obtain ⟨hp50, H⟩ := ite_only H
     obtain ⟨ad51, rfl⟩ := (hr0_3.old hw).some hp50.1 hp50.2
     refine q_run hs (by rfl) (fun wx hbx => (x_idx (T := 72) (sz := 2) (a := ad51) (n := a0.Syms.length) (cap := c0_3) (k := .i64) (i := v44) hp50)) [52, 53] ?_; clear hs; intro a hs
     refine q_pvs 5 [54] [(55, .pointer (some ((ad51.add (v44.toNat * 2) : Addr).add 0)))] hs ?_; clear hs; intro a hs
     refine q_run hs (by rfl) (fun wx hbx => (x_ld (off := 0) (p := (ad51.add (v44.toNat * 2) : Addr).add 0) (v := .string ((ix eSapi_Sym.d a0.Syms v44).Name)) ((hr0_3.old hw).below hbx) hp50 (by simp only [add_add', Nat.add_assoc]; rfl))) [55] ?_; clear hs; intro a hs
     obtain ⟨t53, hx54, H⟩ := bind_some H
     refine q_call hs (by rfl) (fun wx hbx => (rivetref07_Name.calls ((ix eSapi_Sym.d a0.Syms v44).Name) t53 _ hx54).mono fun e wy h => ⟨h.1, below_st hbx h.2⟩) [56] ?_; clear hs; intro a hs
     refine q_pvs 9 [57] [(59, .bool (!t53))] hs ?_; clear hs; intro a hs
     cases hb55 : (!t53)
     ·replace H := ite_t H (nf hb55)
      rw [hb55] at hs
      refine q_pvs 12 [] [(62, .bool (decide (v44 > 0)))] hs ?_; clear hs; intro a hs
      cases hb56 : (decide (v44 > 0))
      ·replace H := ite_f H (of_decide_eq_false hb56)
       rw [hb56] at hs
       refine q_pvs 28 [59, 62] [(78, .bool false)] hs ?_; clear hs; intro a hs
       refine q_end ?_
       intro wq hbq
       replace hw := hw.behind hbq
       exact hJ4 false _ _ hs.kx hw H
      ·replace H := ite_t H (of_decide_eq_true hb56)
       rw [hb56] at hs
       refine q_pvs 13 [] [(63, .pointer (some (⟨g2, 2, none⟩ : Addr)))] hs ?_; clear hs; intro a hs
       refine q_run hs (by rfl) (fun wx hbx => (x_bld (g := g2) (o := 2) (p := (⟨g2, 2, none⟩ : Addr)) (v := .slice (some ad51) a0.Syms.length c0_3) ((hw.behind hbx).up 0))) [63] ?_; clear hs; intro a hs
       refine q_pvs 15 [] [(65, .int .i64 v44)] hs ?_; clear hs; intro a hs
       obtain ⟨hp57, H⟩ := ite_only H
       refine q_run hs (by rfl) (fun wx hbx => (x_idx (T := 72) (sz := 2) (a := ad51) (n := a0.Syms.length) (cap := c0_3) (k := .i64) (i := v44) hp57)) [64, 65] ?_; clear hs; intro a hs
       refine q_pvs 17 [66] [(67, .pointer (some ((ad51.add (v44.toNat * 2) : Addr).add 0)))] hs ?_; clear hs; intro a hs
       refine q_run hs (by rfl) (fun wx hbx => (x_ld (off := 0) (p := (ad51.add (v44.toNat * 2) : Addr).add 0) (v := .string ((ix eSapi_Sym.d a0.Syms v44).Name)) ((hr0_3.old hw).below hbx) hp57 (by simp only [add_add', Nat.add_assoc]; rfl))) [67] ?_; clear hs; intro a hs
       refine q_pvs 19 [] [(69, .pointer (some (⟨g2, 2, none⟩ : Addr)))] hs ?_; clear hs; intro a hs
       refine q_run hs (by rfl) (fun wx hbx => (x_bld (g := g2) (o := 2) (p := (⟨g2, 2, none⟩ : Addr)) (v := .slice (some ad51) a0.Syms.length c0_3) ((hw.behind hbx).up 0))) [69] ?_; clear hs; intro a hs
       refine q_pvs 22 [] [(72, .int .i64 (w64 (v44 - 1)))] hs ?_; clear hs; intro a hs
       obtain ⟨hp58, H⟩ := ite_only H
       refine q_run hs (by rfl) (fun wx hbx => (x_idx (T := 72) (sz := 2) (a := ad51) (n := a0.Syms.length) (cap := c0_3) (k := .i64) (i := (w64 (v44 - 1))) hp58)) [70, 72] ?_; clear hs; intro a hs
       refine q_pvs 24 [73] [(74, .pointer (some ((ad51.add ((w64 (v44 - 1)).toNat * 2) : Addr).add 0)))] hs ?_; clear hs; intro a hs
       refine q_run hs (by rfl) (fun wx hbx => (x_ld (off := 0) (p := (ad51.add ((w64 (v44 - 1)).toNat * 2) : Addr).add 0) (v := .string ((ix eSapi_Sym.d a0.Syms (w64 (v44 - 1))).Name)) ((hr0_3.old hw).below hbx) hp58 (by simp only [add_add', Nat.add_assoc]; rfl))) [74] ?_; clear hs; intro a hs
       refine q_pvs 28 [59, 62, 68, 75] [(78, .bool (Op.bytesLess ((ix eSapi_Sym.d a0.Syms v44).Name).toList ((ix eSapi_Sym.d a0.Syms (w64 (v44 - 1))).Name).toList || ((ix eSapi_Sym.d a0.Syms v44).Name).toList == ((ix eSapi_Sym.d a0.Syms (w64 (v44 - 1))).Name).toList))] hs ?_; clear hs; intro a hs
       replace hs : Slots a 105 [(1, .pointer (some (⟨g2, 0, none⟩ : Addr))), (3, .int .i64 (a0.Words.length : Int)), (5, .int .i64 v44), (78, .bool (Op.bytesLess ((ix eSapi_Sym.d a0.Syms v44).Name).toList ((ix eSapi_Sym.d a0.Syms (w64 (v44 - 1))).Name).toList || ((ix eSapi_Sym.d a0.Syms v44).Name).toList == ((ix eSapi_Sym.d a0.Syms (w64 (v44 - 1))).Name).toList))] := hs.kx
       refine q_end ?_
       intro wq hbq
       replace hw := hw.behind hbq
       exact hJ4 (Op.bytesLess ((ix eSapi_Sym.d a0.Syms v44).Name).toList ((ix eSapi_Sym.d a0.Syms (w64 (v44 - 1))).Name).toList || ((ix eSapi_Sym.d a0.Syms v44).Name).toList == ((ix eSapi_Sym.d a0.Syms (w64 (v44 - 1))).Name).toList) _ _ hs.kx hw H
     ·replace H := ite_f H (ff (nt hb55))
      rw [hb55] at hs
      refine q_pvs 28 [59] [(78, .bool true)] hs ?_; clear hs; intro a hs
      refine q_end ?_
      intro wq hbq
      replace hw := hw.behind hbq
      exact hJ4 true _ _ hs.kx hw H
    ·replace H := ite_f H (of_decide_eq_false hc)
     have hb63 := hc
     rw [hb63] at hs
     refine wp_exit ?_
     refine th_exit ?_
     refine th_exit ?_
     refine in_block ?_
     rw [← hr43 _ (Option.some.inj H).symm] at HX43
     exact hJ6 _ _ hs.kx hw HX43
   clear H
   refine go_loop (σ := Int) (fun σ a w => Slots a 105 [(1, .pointer (some (⟨g2, 0, none⟩ : Addr))), (3, .int .i64 (a0.Words.length : Int)), (4, .int .i64 σ)] ∧ St [] w0 w [box g2 32 [.slice A0_1 a0.Words.length c0_1, .slice A0_2 a0.Sites.length c0_2, .slice A0_3 a0.Syms.length c0_3]]) hl26 (by exact ⟨hs.kx, hw⟩) ?_
   rintro v27 a w ⟨hs, hw⟩ o H hr26
   replace hs : Slots a 105 [(1, .pointer (some (⟨g2, 0, none⟩ : Addr))), (3, .int .i64 (a0.Words.length : Int)), (4, .int .i64 v27)] := hs
   replace hw : St [] w0 w [box g2 32 [.slice A0_1 a0.Words.length c0_1, .slice A0_2 a0.Sites.length c0_2, .slice A0_3 a0.Syms.length c0_3]] := hw
   replace H : rivetref09_May.b26 a0 v27 = some o := H
   unfold rivetref09_May.b26 at H
   refine go_seq_k fun K28 hK28 => ?_
   refine go_sk fun K29 hK29 => ?_
   refine go_pvs 2 [] [(24, .int .i64 v27), (25, .pointer (some (⟨g2, 1, none⟩ : Addr)))] hs ?_; clear hs; intro a hs
   refine go_run hs (by rfl) (x_bld (g := g2) (o := 1) (p := (⟨g2, 1, none⟩ : Addr)) (v := .slice A0_2 a0.Sites.length c0_2) (hw.up 0)) [25] ?_; clear hs; intro a hs
   refine go_pvs 5 [24, 26] [(28, .bool (decide (v27 < (a0.Sites.length : Int))))] hs ?_; clear hs; intro a hs
   refine go_end (hK29 _ _ ?_)
   refine go_cond hs (decide (v27 < (a0.Sites.length : Int))) (fun hc => ?_) fun hc => ?_
   ·replace H := ite_t H (of_decide_eq_true hc)
    have hb30 := hc
    rw [hb30] at hs
    refine wp_skip ?_
    refine hK28 _ _ ?_
    refine go_seq_k fun K31 hK31 => ?_
    refine wp_block ?_
    refine go_seq_k fun K32 hK32 => ?_
    refine q2_region (by kernel_rfl) (by kernel_rfl) ?_
    refine q_pvs 1 [28] [(31, .pointer (some (⟨g2, 0, none⟩ : Addr)))] hs ?_; clear hs; intro a hs
    refine q_run hs (by rfl) (fun wx hbx => (x_bld (g := g2) (o := 0) (p := (⟨g2, 0, none⟩ : Addr)) (v := .slice A0_1 a0.Words.length c0_1) ((hw.behind hbx).up 0))) [31] ?_; clear hs; intro a hs
    refine q_pvs 3 [] [(33, .pointer (some (⟨g2, 1, none⟩ : Addr)))] hs ?_; clear hs; intro a hs
    refine q_run hs (by rfl) (fun wx hbx => (x_bld (g := g2) (o := 1) (p := (⟨g2, 1, none⟩ : Addr)) (v := .slice A0_2 a0.Sites.length c0_2) ((hw.behind hbx).up 0))) [33] ?_; clear hs; intro a hs
    refine q_pvs 5 [] [(35, .int .i64 v27)] hs ?_; clear hs; intro a hs
    obtain ⟨hp33, H⟩ := ite_only H
    obtain ⟨ad34, rfl⟩ := (hr0_2.old hw).some hp33.1 hp33.2
    refine q_run hs (by rfl) (fun wx hbx => (x_idx (T := 3) (sz := 1) (a := ad34) (n := a0.Sites.length) (cap := c0_2) (k := .i64) (i := v27) hp33)) [34, 35] ?_; clear hs; intro a hs
    refine q_run hs (by rfl) (fun wx hbx => (x_ld (off := 0) (p := ad34.add (v27.toNat * 1)) (v := .int .i64 (ix (eI .i64).d a0.Sites v27)) ((hr0_2.old hw).below hbx) hp33 rfl)) [36] ?_; clear hs; intro a hs
    obtain ⟨hp35, H⟩ := ite_only H
    obtain ⟨ad36, rfl⟩ := (hr0_1.old hw).some hp35.1 hp35.2
    refine q_run hs (by rfl) (fun wx hbx => (x_idx (T := 38) (sz := 1) (a := ad36) (n := a0.Words.length) (cap := c0_1) (k := .i64) (i := (ix (eI .i64).d a0.Sites v27)) hp35)) [32, 37] ?_; clear hs; intro a hs
    refine q_run hs (by rfl) (fun wx hbx => (x_ld (off := 0) (p := ad36.add ((ix (eI .i64).d a0.Sites v27).toNat * 1)) (v := .int .u32 (ix (eI .u32).d a0.Words (ix (eI .i64).d a0.Sites v27))) ((hr0_1.old hw).below hbx) hp35 rfl)) [38] ?_; clear hs; intro a hs
    refine q_pvs 13 [39] [(43, .bool (decide ((w64 (ix (eI .u32).d a0.Words (ix (eI .i64).d a0.Sites v27))) > (w64 (4 * (a0.Words.length : Int))))))] hs ?_; clear hs; intro a hs
    refine q_end ?_
    intro wq hbq
    replace hw := hw.behind hbq
    refine hK32 _ _ ?_
    refine go_cond hs (decide ((w64 (ix (eI .u32).d a0.Words (ix (eI .i64).d a0.Sites v27))) > (w64 (4 * (a0.Words.length : Int))))) (fun hc => ?_) fun hc => ?_
    ·replace H := ite_t H (of_decide_eq_true hc)
     have hb37 := hc
     rw [hb37] at hs
     refine go_sp [1, 3, 4, 43] [(2, .int .i64 8)] hs ?_; clear hs; intro a hs
     refine wp_ret ?_
     refine ib_ret ?_
     refine th_ret ?_
     refine th_ret ?_
     refine ib_ret ?_
     refine th_ret ?_
     rw [← hr26 _ (Option.some.inj H).symm] at HX26
     replace H : some 8 = some r := HX26
     obtain rfl := Option.some.inj H
     refine ret1 (t := 2) (v := .int .i64 8) hs (by kernel_rfl) (by kernel_rfl) ?_
     exact ⟨rfl, hw.only 0⟩
    ·replace H := ite_f H (of_decide_eq_false hc)
     have hb39 := hc
     rw [hb39] at hs
     refine wp_skip ?_
     refine ib_norm ?_
     refine hK31 _ _ ?_
     refine go_plain [43] [(4, .int .i64 (w64 (v27 + 1)))] hs ?_; clear hs; intro a hs
     exact round_end (w64 (v27 + 1)) (Option.some.inj H).symm ⟨hs.kx, hw⟩
   ·replace H := ite_f H (of_decide_eq_false hc)
    have hb40 := hc
    rw [hb40] at hs
    refine wp_exit ?_
    refine th_exit ?_
    refine th_exit ?_
    refine in_block ?_
    rw [← hr26 _ (Option.some.inj H).symm] at HX26
    exact hJ3 _ _ hs.kx hw HX26
 refine go_seq_k fun K8 hK8 => ?_
 have hJ1 : ∀ (v10 : Bool) (a : Act) (w : World), Slots a 105 [(1, .pointer (some (⟨g2, 0, none⟩ : Addr))), (3, .int .i64 (a0.Words.length : Int)), (18, .bool v10)] → St [] w0 w [box g2 32 [.slice A0_1 a0.Words.length c0_1, .slice A0_2 a0.Sites.length c0_2, .slice A0_3 a0.Syms.length c0_3]] → rivetref09_May.j1 a0 v10 = some r → K8 a w := by
  intro v10 a w hs hw H
  unfold rivetref09_May.j1 at H
  refine hK8 _ _ ?_
  refine go_cond hs v10 (fun hc => ?_) fun hc => ?_
  ·replace H := ite_t H hc
   have hb11 := hc
   rw [hb11] at hs
   refine go_sp [1, 3, 18] [(2, .int .i64 2)] hs ?_; clear hs; intro a hs
   refine wp_ret ?_
   refine th_ret ?_
   obtain rfl := Option.some.inj H
   refine ret1 (t := 2) (v := .int .i64 2) hs (by kernel_rfl) (by kernel_rfl) ?_
   exact ⟨rfl, hw.only 0⟩
  ·replace H := ite_f H (ff hc)
   have hb13 := hc
   rw [hb13] at hs
   refine wp_skip ?_
   exact hJ2 _ _ hs.kx hw H
 refine go_region ?_
 refine go_pvs 3 [] [(13, .bool (decide ((a0.Words.length : Int) > 1024)))] hs ?_; clear hs; intro a hs
 cases hb9 : (decide ((a0.Words.length : Int) > 1024))
 ·replace H := ite_f H (of_decide_eq_false hb9)
  rw [hb9] at hs
  refine go_pvs 4 [] [(14, .pointer (some (⟨g2, 2, none⟩ : Addr)))] hs ?_; clear hs; intro a hs
  refine go_run hs (by rfl) (x_bld (g := g2) (o := 2) (p := (⟨g2, 2, none⟩ : Addr)) (v := .slice A0_3 a0.Syms.length c0_3) (hw.up 0)) [14] ?_; clear hs; intro a hs
  refine go_pvs 8 [13, 15] [(18, .bool (decide ((a0.Syms.length : Int) > 64)))] hs ?_; clear hs; intro a hs
  refine go_end ?_
  exact hJ1 (decide ((a0.Syms.length : Int) > 64)) _ _ hs.kx hw H
 ·replace H := ite_t H (of_decide_eq_true hb9)
  rw [hb9] at hs
  refine go_pvs 8 [13] [(18, .bool true)] hs ?_; clear hs; intro a hs
  refine go_end ?_
  exact hJ1 true _ _ hs.kx hw H

/-! rivet/rivetref09.Fit: function 8 -/
noncomputable def rivetref09_Fit.j5 (v96 : Int) : Option (Int ⊕ Int) := some (.inl (w64 (v96 + 1)))
noncomputable def rivetref09_Fit.j4 (v96 : Int) (v102 : Bool) : Option (Int ⊕ Int) := (if v102 = true then rivetref09_Fit.j5 v96 else some (.inr v96))
noncomputable def rivetref09_Fit.b95 (l74 : List Sapi_Sym) (t89 : ByteArray) (v96 : Int) : Option (Int ⊕ Int) := (if v96 < (l74.length : Int) then (if 0 ≤ v96 ∧ v96 < (l74.length : Int) then rivetref09_Fit.j4 v96 (Op.bytesLess ((ix eSapi_Sym.d l74 v96).Name).toList t89.toList) else none) else rivetref09_Fit.j4 v96 false)
noncomputable def rivetref09_Fit.j9 (v77 : Int) (l162 : List Sapi_Sym) : Option ((List Sapi_Sym) × Int ⊕ (List Sapi_Sym)) := some (.inl (l162, w64 (v77 + 1)))
noncomputable def rivetref09_Fit.j8 (v77 : Int) (l2 : List ByteArray) (y39 : Int) (v105 : Int) (l74 : List Sapi_Sym) (t89 : ByteArray) : Option ((List Sapi_Sym) × Int ⊕ (List Sapi_Sym)) := (if 0 ≤ v77 ∧ v77 < (l2.length : Int) then (if (w64 (y39 + 1)) ≠ 0 then (if 0 ≤ v105 ∧ v105 ≤ (l74.length : Int) then (if ([(⟨t89, w64 (4 * ((w64 (((ix eS.d l2 v77).size : Int) + v77)).tmod (w64 (y39 + 1))))⟩ : Sapi_Sym)] : List Sapi_Sym).length + (l74.drop (v105 : Int).toNat).length ≤ 5864062014805 then (if 0 ≤ v105 ∧ v105 ≤ (l74.length : Int) then (if ([] : List Sapi_Sym).length + (l74.take (v105 : Int).toNat).length ≤ 5864062014805 then (if (([] : List Sapi_Sym) ++ (l74.take (v105 : Int).toNat)).length + (([(⟨t89, w64 (4 * ((w64 (((ix eS.d l2 v77).size : Int) + v77)).tmod (w64 (y39 + 1))))⟩ : Sapi_Sym)] : List Sapi_Sym) ++ (l74.drop (v105 : Int).toNat)).length ≤ 5864062014805 then rivetref09_Fit.j9 v77 ((([] : List Sapi_Sym) ++ (l74.take (v105 : Int).toNat)) ++ (([(⟨t89, w64 (4 * ((w64 (((ix eS.d l2 v77).size : Int) + v77)).tmod (w64 (y39 + 1))))⟩ : Sapi_Sym)] : List Sapi_Sym) ++ (l74.drop (v105 : Int).toNat))) else none) else none) else none) else none) else none) else none) else none)
noncomputable def rivetref09_Fit.j7 (v77 : Int) (l74 : List Sapi_Sym) (l2 : List ByteArray) (y39 : Int) (v105 : Int) (t89 : ByteArray) (v111 : Bool) : Option ((List Sapi_Sym) × Int ⊕ (List Sapi_Sym)) := (if v111 = true then rivetref09_Fit.j9 v77 l74 else rivetref09_Fit.j8 v77 l2 y39 v105 l74 t89)
noncomputable def rivetref09_Fit.j6 (l74 : List Sapi_Sym) (v77 : Int) (l2 : List ByteArray) (y39 : Int) (t89 : ByteArray) (v105 : Int) : Option ((List Sapi_Sym) × Int ⊕ (List Sapi_Sym)) := (if v105 < (l74.length : Int) then (if 0 ≤ v105 ∧ v105 < (l74.length : Int) then rivetref09_Fit.j7 v77 l74 l2 y39 v105 t89 (((ix eSapi_Sym.d l74 v105).Name).toList == t89.toList) else none) else rivetref09_Fit.j7 v77 l74 l2 y39 v105 t89 false)
noncomputable def rivetref09_Fit.j3 (v77 : Int) (l2 : List ByteArray) (l74 : List Sapi_Sym) (y39 : Int) : Option ((List Sapi_Sym) × Int ⊕ (List Sapi_Sym)) := (if 0 ≤ v77 ∧ v77 < (l2.length : Int) then ((rivetref07_Fit (ix eS.d l2 v77)).bind fun t89 => (((loopO (fun (σ : Int) => rivetref09_Fit.b95 l74 t89 σ) 0).bind fun e => rivetref09_Fit.j6 l74 v77 l2 y39 t89 e))) else none)
noncomputable def rivetref09_Fit.j2 (v77 : Int) (l2 : List ByteArray) (l74 : List Sapi_Sym) (y39 : Int) (v81 : Bool) : Option ((List Sapi_Sym) × Int ⊕ (List Sapi_Sym)) := (if v81 = true then rivetref09_Fit.j3 v77 l2 l74 y39 else some (.inr l74))
noncomputable def rivetref09_Fit.j10 (l70 : List Int) (t42 : List Int) (l163 : List Sapi_Sym) : Option Sapi_Obj := some (⟨l70, t42, l163⟩ : Sapi_Obj)
noncomputable def rivetref09_Fit.b73 (l2 : List ByteArray) (y39 : Int) (l74 : List Sapi_Sym) (v77 : Int) : Option ((List Sapi_Sym) × Int ⊕ (List Sapi_Sym)) := (if v77 < (l2.length : Int) then rivetref09_Fit.j2 v77 l2 l74 y39 (decide (v77 < 8)) else rivetref09_Fit.j2 v77 l2 l74 y39 false)
noncomputable def rivetref09_Fit.j1 (l2 : List ByteArray) (y39 : Int) (t42 : List Int) (l70 : List Int) : Option Sapi_Obj := ((loopO (fun (σ : (List Sapi_Sym) × Int) => rivetref09_Fit.b73 l2 y39 σ.1 σ.2) (([] : List Sapi_Sym), 0)).bind fun e => rivetref09_Fit.j10 l70 t42 e)
noncomputable def rivetref09_Fit.b53 (t42 : List Int) (y39 : Int) (l54 : List Int) (v55 : Int) : Option ((List Int) × Int ⊕ (List Int)) := (if v55 < (t42.length : Int) then (if 0 ≤ v55 ∧ v55 < (t42.length : Int) then (if 0 ≤ v55 ∧ v55 < (t42.length : Int) then (if 0 ≤ (ix (eI .i64).d t42 v55) ∧ (ix (eI .i64).d t42 v55) < (l54.length : Int) then (if (wu32 (w64 ((w64 (4 * y39)) + 1))) ≠ 0 then (if 0 ≤ (ix (eI .i64).d t42 v55) ∧ (ix (eI .i64).d t42 v55) < (l54.length : Int) then some (.inl (l54.set ((ix (eI .i64).d t42 v55) : Int).toNat ((ix (eI .u32).d l54 (ix (eI .i64).d t42 v55)).tmod (wu32 (w64 ((w64 (4 * y39)) + 1)))), w64 (v55 + 1))) else none) else none) else none) else none) else none) else some (.inr l54))
noncomputable def rivetref09_Fit (l0 : List Int) (l1 : List Int) (l2 : List ByteArray) : Option Sapi_Obj := (if 0 ≤ (mnn (l0.length : Int) 40) ∧ (mnn (l0.length : Int) 40) ≤ (l0.length : Int) then (if ([] : List Int).length + (l0.take (mnn (l0.length : Int) 40 : Int).toNat).length ≤ 35184372088832 then (nm ((([] : List Int) ++ (l0.take (mnn (l0.length : Int) 40 : Int).toNat)).length : Int) fun y39 => ((rivetref08_Fit l1 y39).bind fun t42 => (((loopO (fun (σ : (List Int) × Int) => rivetref09_Fit.b53 t42 y39 σ.1 σ.2) (([] : List Int) ++ (l0.take (mnn (l0.length : Int) 40 : Int).toNat), 0)).bind fun e => rivetref09_Fit.j1 l2 y39 t42 e)))) else none) else none)
set_option maxRecDepth 100000 in
set_option maxHeartbeats 4000000 in
theorem rivetref09_Fit.calls (A0 : Option Addr) (c0 : Nat) (l0 : List Int) (A1 : Option Addr) (c1 : Nat) (l1 : List Int) (A2 : Option Addr) (c2 : Nat) (l2 : List ByteArray) (r : Sapi_Obj) (w0 : World) (hr0 : Rd w0 (eI .u32) A0 c0 l0) (hr1 : Rd w0 (eI .u8) A1 c1 l1) (hr2 : Rd w0 eS A2 c2 l2) (H : rivetref09_Fit l0 l1 l2 = some r) :
    Calls Tryd.prog 8 #[.slice A0 l0.length c0, .slice A1 l1.length c1, .slice A2 l2.length c2] w0 fun e w' => ∃ A_0_1 c_0_1, ∃ A_0_2 c_0_2, ∃ A_0_3 c_0_3, e = .returned (.agg #[.slice A_0_1 r.Words.length c_0_1, .slice A_0_2 r.Sites.length c_0_2, .slice A_0_3 r.Syms.length c_0_3]) ∧ St [] w0 w' [own 38 (eI .u32) A_0_1 c_0_1 r.Words, own 3 (eI .i64) A_0_2 c_0_2 r.Sites, own 72 eSapi_Sym A_0_3 c_0_3 r.Syms] := by
 have hw : St [] w0 w0 [] := St.nil w0
 unfold rivetref09_Fit at H
 refine go_fn Tryd.func8 rfl Tryd.ntmps8 ?_; intro a hs
 refine go_sk fun K1 hK1 => ?_
 obtain ⟨g2, wd3, hx4, hw⟩ := x_allocc (P := Tryd.prog) (elem := 32) (ty := 0) (z := .agg #[.slice none 0 0, .slice none 0 0, .slice none 0 0]) (cs := [.slice none 0 0, .slice none 0 0, .slice none 0 0]) hs hw (by kernel_rfl) (by kernel_rfl)
 refine go_run hs (by rfl) hx4 [] ?_; clear hs; intro a hs
 replace hw := St.own_nil hw 38 (eI .u32)
 replace hw := St.own_nil hw 3 (eI .i64)
 replace hw := St.own_nil hw 72 eSapi_Sym
 replace hw : St [] w0 wd3 [own 72 eSapi_Sym none 0 ([] : List Sapi_Sym), own 3 (eI .i64) none 0 ([] : List Int), own 38 (eI .u32) none 0 ([] : List Int), box g2 32 [.slice none ([] : List Int).length 0, .slice none ([] : List Int).length 0, .slice none ([] : List Sapi_Sym).length 0]] := hw
 refine go_end (hK1 _ _ ?_)
 refine go_sk fun K9 hK9 => ?_
 obtain ⟨Aa10, cc11, wd12, hx13, hw⟩ := n_lit0 (P := Tryd.prog) (t := 22) (ty := 22) (T := 38) hs hw (eI .u32) (by kernel_rfl) (by kernel_rfl)
 refine go_run hs (by rfl) hx13 [] ?_; clear hs; intro a hs
 refine go_pvs 5 [0] [(15, .slice A0 l0.length c0), (18, .int .i64 (mnn (l0.length : Int) 40))] hs ?_; clear hs; intro a hs
 obtain ⟨hp15, H⟩ := ite_only H
 obtain ⟨Aa16, cc17, hx18, hc19⟩ := c_hi (P := Tryd.prog) (ty := 22) (E := (eI .u32)) (T := 38) (t := 22) (x := (Operand.tmp 15)) (y := (Operand.tmp 18)) (k := .i64) hs (by kernel_rfl) (by kernel_rfl) (hr0.old hw) (by kernel_rfl) (by kernel_rfl) hp15.1 hp15.2
 refine go_run hs (by rfl) hx18 [15, 18] ?_; clear hs; intro a hs
 obtain ⟨hp21, H⟩ := ite_only H
 have hsrc26 : Src Tryd.prog (eI .u32).sz 22 (.slice Aa16 (l0.take (mnn (l0.length : Int) 40 : Int).toNat).length cc17) (l0.take (mnn (l0.length : Int) 40 : Int).toNat).length ((l0.take (mnn (l0.length : Int) 40 : Int).toNat).flatMap (eI .u32).enc) _ := (Src.of_rd (E := (eI .u32)) (e' := 38) (by kernel_rfl) (hc19 _ (hr0.old hw)))
 obtain ⟨Aa22, cc23, wd24, hx25, hw⟩ := x_append (P := Tryd.prog) (t := 22) (tx := 22) (ty := 22) (x := (Operand.tmp 14)) (y := (Operand.tmp 19)) (z := .int .u32 0) (bytes := 4) (l2 := l0.take (mnn (l0.length : Int) 40 : Int).toNat) hs hw (by kernel_rfl) (by kernel_rfl) (by kernel_rfl) (by kernel_rfl) (by kernel_rfl) hsrc26 (by omega) (by omega)
 refine go_run hs (by rfl) hx25 [14, 19] ?_; clear hs; intro a hs
 refine go_pvs 8 [20] [(21, .agg #[.slice Aa22 (([] : List Int) ++ (l0.take (mnn (l0.length : Int) 40 : Int).toNat)).length cc23, .slice none 0 0, .slice none 0 0])] hs ?_; clear hs; intro a hs
 obtain ⟨g27, wd28, hx29, hw⟩ := x_allocc (P := Tryd.prog) (elem := 32) (ty := 0) (z := .agg #[.slice none 0 0, .slice none 0 0, .slice none 0 0]) (cs := [.slice none 0 0, .slice none 0 0, .slice none 0 0]) hs hw (by kernel_rfl) (by kernel_rfl)
 refine go_run hs (by rfl) hx29 [] ?_; clear hs; intro a hs
 replace hw := St.own_nil hw 38 (eI .u32)
 replace hw := St.own_nil hw 3 (eI .i64)
 replace hw := St.own_nil hw 72 eSapi_Sym
 replace hw : St [] w0 wd28 [own 72 eSapi_Sym none 0 ([] : List Sapi_Sym), own 3 (eI .i64) none 0 ([] : List Int), own 38 (eI .u32) none 0 ([] : List Int), box g27 32 [.slice none ([] : List Int).length 0, .slice none ([] : List Int).length 0, .slice none ([] : List Sapi_Sym).length 0], own 38 (eI .u32) Aa22 cc23 (([] : List Int) ++ (l0.take (mnn (l0.length : Int) 40 : Int).toNat)), own 72 eSapi_Sym none 0 ([] : List Sapi_Sym), own 3 (eI .i64) none 0 ([] : List Int), own 38 (eI .u32) none 0 ([] : List Int), box g2 32 [.slice none ([] : List Int).length 0, .slice none ([] : List Int).length 0, .slice none ([] : List Sapi_Sym).length 0]] := hw
 replace hw := hw.up 3
 obtain ⟨wd34, hx35, hw⟩ := x_bput (P := Tryd.prog) (ty := 0) (t := 32) (y := (Operand.tmp 7)) (z := (Operand.tmp 21)) (o := 0) (p := (⟨g27, 0, none⟩ : Addr)) (v := .agg #[.slice Aa22 (([] : List Int) ++ (l0.take (mnn (l0.length : Int) 40 : Int).toNat)).length cc23, .slice none 0 0, .slice none 0 0]) (vs := [.slice Aa22 (([] : List Int) ++ (l0.take (mnn (l0.length : Int) 40 : Int).toNat)).length cc23, .slice none 0 0, .slice none 0 0]) (cs' := [.slice Aa22 (([] : List Int) ++ (l0.take (mnn (l0.length : Int) 40 : Int).toNat)).length cc23, .slice none 0 0, .slice none 0 0]) hs hw (by kernel_rfl) rfl (by kernel_rfl) rfl (by kernel_rfl) (by kernel_rfl) (by simp [Value.oneCell']) rfl
 refine go_unit hs (by rfl) hx35 [21] ?_; clear hs; intro a hs
 replace hw := St.own_nil hw 3 (eI .i64)
 replace hw := St.own_nil hw 72 eSapi_Sym
 replace hw : St [] w0 wd34 [own 72 eSapi_Sym none 0 ([] : List Sapi_Sym), own 3 (eI .i64) none 0 ([] : List Int), box g27 32 [.slice Aa22 (([] : List Int) ++ (l0.take (mnn (l0.length : Int) 40 : Int).toNat)).length cc23, .slice none ([] : List Int).length 0, .slice none ([] : List Sapi_Sym).length 0], own 72 eSapi_Sym none 0 ([] : List Sapi_Sym), own 3 (eI .i64) none 0 ([] : List Int), own 38 (eI .u32) none 0 ([] : List Int), own 38 (eI .u32) Aa22 cc23 (([] : List Int) ++ (l0.take (mnn (l0.length : Int) 40 : Int).toNat)), own 72 eSapi_Sym none 0 ([] : List Sapi_Sym), own 3 (eI .i64) none 0 ([] : List Int), own 38 (eI .u32) none 0 ([] : List Int), box g2 32 [.slice none ([] : List Int).length 0, .slice none ([] : List Int).length 0, .slice none ([] : List Sapi_Sym).length 0]] := hw
 refine go_end (hK9 _ _ ?_)
 refine go_sk fun K38 hK38 => ?_
 refine go_pvs 1 [] [(22, .pointer (some (⟨g27, 0, none⟩ : Addr)))] hs ?_; clear hs; intro a hs
 refine go_run hs (by rfl) (x_bld (g := g27) (o := 0) (p := (⟨g27, 0, none⟩ : Addr)) (v := .slice Aa22 (([] : List Int) ++ (l0.take (mnn (l0.length : Int) 40 : Int).toNat)).length cc23) (hw.up 2)) [22] ?_; clear hs; intro a hs
 refine go_pvs 4 [23] [(8, .int .i64 ((([] : List Int) ++ (l0.take (mnn (l0.length : Int) 40 : Int).toNat)).length : Int))] hs ?_; clear hs; intro a hs
 obtain ⟨y39, hy39, H⟩ := nm_some H
 replace hs : Slots a 134 [(1, .slice A1 l1.length c1), (2, .slice A2 l2.length c2), (6, .pointer (some (⟨g2, 0, none⟩ : Addr))), (7, .pointer (some (⟨g27, 0, none⟩ : Addr))), (8, .int .i64 y39)] := by rw [hy39]; exact hs.kx
 refine go_end (hK38 _ _ ?_)
 refine go_sk fun K40 hK40 => ?_
 refine go_pvs 2 [1] [(25, .slice A1 l1.length c1), (26, .int .i64 y39)] hs ?_; clear hs; intro a hs
 obtain ⟨t42, hx43, H⟩ := bind_some H
 refine go_call hs (by rfl) (rivetref08_Fit.calls A1 c1 l1 y39 t42 _ (hr1.old hw) hx43) ?_
 rintro e wd46 ⟨Aa44, cc45, rfl, hw47⟩
 refine ⟨_, rfl, ?_⟩
 replace hw := hw.call hw47
 clear hs; intro a hs; replace hs := hs.rms [25, 26]
 refine go_pvs 4 [] [(28, .pointer (some (⟨g27, 1, none⟩ : Addr)))] hs ?_; clear hs; intro a hs
 replace hw := hw.up 3
 obtain ⟨wd49, hx50, hw⟩ := x_bput (P := Tryd.prog) (ty := 0) (t := 29) (y := (Operand.tmp 28)) (z := (Operand.tmp 27)) (o := 1) (p := (⟨g27, 1, none⟩ : Addr)) (v := .slice Aa44 t42.length cc45) (vs := [.slice Aa44 t42.length cc45]) (cs' := [.slice Aa22 (([] : List Int) ++ (l0.take (mnn (l0.length : Int) 40 : Int).toNat)).length cc23, .slice Aa44 t42.length cc45, .slice none ([] : List Sapi_Sym).length 0]) hs hw (by kernel_rfl) rfl (by kernel_rfl) rfl (by kernel_rfl) (by kernel_rfl) (by simp [Value.oneCell']) rfl
 refine go_unit hs (by rfl) hx50 [27, 28] ?_; clear hs; intro a hs
 refine go_end (hK40 _ _ ?_)
 refine go_seq_k fun K51 hK51 => ?_
 refine go_sp [] [(9, .int .i64 0)] hs ?_; clear hs; intro a hs
 refine wp_block ?_
 obtain ⟨e53, hl53, HX53⟩ := bind_some H
 have hJ1 : ∀ (l70 : List Int) (a : Act) (w : World), Slots a 134 [(2, .slice A2 l2.length c2), (6, .pointer (some (⟨g2, 0, none⟩ : Addr))), (7, .pointer (some (⟨g27, 0, none⟩ : Addr))), (8, .int .i64 y39)] → St [] w0 w [box g27 32 [.slice Aa22 l70.length cc23, .slice Aa44 t42.length cc45, .slice none ([] : List Sapi_Sym).length 0], own 3 (eI .i64) Aa44 cc45 t42, own 72 eSapi_Sym none 0 ([] : List Sapi_Sym), own 3 (eI .i64) none 0 ([] : List Int), own 72 eSapi_Sym none 0 ([] : List Sapi_Sym), own 3 (eI .i64) none 0 ([] : List Int), own 38 (eI .u32) none 0 ([] : List Int), own 38 (eI .u32) Aa22 cc23 l70, own 72 eSapi_Sym none 0 ([] : List Sapi_Sym), own 3 (eI .i64) none 0 ([] : List Int), own 38 (eI .u32) none 0 ([] : List Int), box g2 32 [.slice none ([] : List Int).length 0, .slice none ([] : List Int).length 0, .slice none ([] : List Sapi_Sym).length 0]] → rivetref09_Fit.j1 l2 y39 t42 l70 = some r → K51 a w := by
  intro l70 a w hs hw H
  unfold rivetref09_Fit.j1 at H
  refine hK51 _ _ ?_
  refine go_seq_k fun K71 hK71 => ?_
  refine go_sp [] [(10, .int .i64 0)] hs ?_; clear hs; intro a hs
  refine wp_block ?_
  obtain ⟨e73, hl73, HX73⟩ := bind_some H
  have hJ10 : ∀ (Aa164 : Option Addr) (cc165 : Nat) (l163 : List Sapi_Sym) (a : Act) (w : World), Slots a 134 [(6, .pointer (some (⟨g2, 0, none⟩ : Addr))), (7, .pointer (some (⟨g27, 0, none⟩ : Addr)))] → St [] w0 w [box g27 32 [.slice Aa22 l70.length cc23, .slice Aa44 t42.length cc45, .slice Aa164 l163.length cc165], own 3 (eI .i64) Aa44 cc45 t42, own 72 eSapi_Sym Aa164 cc165 l163, own 3 (eI .i64) none 0 ([] : List Int), own 72 eSapi_Sym none 0 ([] : List Sapi_Sym), own 3 (eI .i64) none 0 ([] : List Int), own 38 (eI .u32) none 0 ([] : List Int), own 38 (eI .u32) Aa22 cc23 l70, own 72 eSapi_Sym none 0 ([] : List Sapi_Sym), own 3 (eI .i64) none 0 ([] : List Int), own 38 (eI .u32) none 0 ([] : List Int), box g2 32 [.slice none ([] : List Int).length 0, .slice none ([] : List Int).length 0, .slice none ([] : List Sapi_Sym).length 0]] → rivetref09_Fit.j10 l70 t42 l163 = some r → K71 a w := by
   intro Aa164 cc165 l163 a w hs hw H
   unfold rivetref09_Fit.j10 at H
   refine hK71 _ _ ?_
   refine go_sk fun K166 hK166 => ?_
   refine go_run hs (by rfl) (x_blds (g := g27) (o := 0) (p := (⟨g27, 0, none⟩ : Addr)) (vs := [.slice Aa22 l70.length cc23, .slice Aa44 t42.length cc45, .slice Aa164 l163.length cc165]) (hw.up 0)) [7] ?_; clear hs; intro a hs
   replace hw := hw.up 11
   obtain ⟨wd167, hx168, hw⟩ := x_bput (P := Tryd.prog) (ty := 0) (t := 32) (y := (Operand.tmp 6)) (z := (Operand.tmp 133)) (o := 0) (p := (⟨g2, 0, none⟩ : Addr)) (v := .agg #[.slice Aa22 l70.length cc23, .slice Aa44 t42.length cc45, .slice Aa164 l163.length cc165]) (vs := [.slice Aa22 l70.length cc23, .slice Aa44 t42.length cc45, .slice Aa164 l163.length cc165]) (cs' := [.slice Aa22 l70.length cc23, .slice Aa44 t42.length cc45, .slice Aa164 l163.length cc165]) hs hw (by kernel_rfl) rfl (by kernel_rfl) rfl (by kernel_rfl) (by kernel_rfl) (by simp [Value.oneCell']) rfl
   refine go_unit hs (by rfl) hx168 [133] ?_; clear hs; intro a hs
   refine go_end (hK166 _ _ ?_)
   refine wp_ret ?_
   obtain rfl := Option.some.inj H
   replace hw := hw.up 3
   replace hw := hw.up 3
   replace hw := hw.up 8
   replace hs : Slots a 134 [(6, .pointer (some (⟨g2, 0, none⟩ : Addr)))] := hs.kx
   refine ret1g (L := [(6, .pointer (some (⟨g2, 0, none⟩ : Addr)))]) (r1 := .cell 6 32) (v1 := .agg #[.slice Aa22 l70.length cc23, .slice Aa44 t42.length cc45, .slice Aa164 l163.length cc165]) hs (by kernel_rfl) ⟨_, (show lk 6 [(6, .pointer (some (⟨g2, 0, none⟩ : Addr)))] = some (.pointer (some (⟨g2, 0, none⟩ : Addr))) by kernel_rfl), lvb_row (hw.up 3) (by kernel_rfl) (by kernel_rfl) (by kernel_rfl)⟩ ?_
   exact ⟨Aa22, cc23, Aa44, cc45, Aa164, cc165, rfl, hw.only 3⟩
  clear H
  refine go_loop (σ := (List Sapi_Sym) × Int) (fun σ a w => ∃ Aa75, ∃ cc76, Slots a 134 [(2, .slice A2 l2.length c2), (6, .pointer (some (⟨g2, 0, none⟩ : Addr))), (7, .pointer (some (⟨g27, 0, none⟩ : Addr))), (8, .int .i64 y39), (10, .int .i64 σ.2)] ∧ St [] w0 w [box g27 32 [.slice Aa22 l70.length cc23, .slice Aa44 t42.length cc45, .slice Aa75 σ.1.length cc76], own 3 (eI .i64) Aa44 cc45 t42, own 72 eSapi_Sym Aa75 cc76 σ.1, own 3 (eI .i64) none 0 ([] : List Int), own 72 eSapi_Sym none 0 ([] : List Sapi_Sym), own 3 (eI .i64) none 0 ([] : List Int), own 38 (eI .u32) none 0 ([] : List Int), own 38 (eI .u32) Aa22 cc23 l70, own 72 eSapi_Sym none 0 ([] : List Sapi_Sym), own 3 (eI .i64) none 0 ([] : List Int), own 38 (eI .u32) none 0 ([] : List Int), box g2 32 [.slice none ([] : List Int).length 0, .slice none ([] : List Int).length 0, .slice none ([] : List Sapi_Sym).length 0]]) hl73 (by exact ⟨none, 0, hs.kx, hw⟩) ?_
  rintro ⟨l74, v77⟩ a w ⟨Aa75, cc76, hs, hw⟩ o H hr73
  replace hs : Slots a 134 [(2, .slice A2 l2.length c2), (6, .pointer (some (⟨g2, 0, none⟩ : Addr))), (7, .pointer (some (⟨g27, 0, none⟩ : Addr))), (8, .int .i64 y39), (10, .int .i64 v77)] := hs
  replace hw : St [] w0 w [box g27 32 [.slice Aa22 l70.length cc23, .slice Aa44 t42.length cc45, .slice Aa75 l74.length cc76], own 3 (eI .i64) Aa44 cc45 t42, own 72 eSapi_Sym Aa75 cc76 l74, own 3 (eI .i64) none 0 ([] : List Int), own 72 eSapi_Sym none 0 ([] : List Sapi_Sym), own 3 (eI .i64) none 0 ([] : List Int), own 38 (eI .u32) none 0 ([] : List Int), own 38 (eI .u32) Aa22 cc23 l70, own 72 eSapi_Sym none 0 ([] : List Sapi_Sym), own 3 (eI .i64) none 0 ([] : List Int), own 38 (eI .u32) none 0 ([] : List Int), box g2 32 [.slice none ([] : List Int).length 0, .slice none ([] : List Int).length 0, .slice none ([] : List Sapi_Sym).length 0]] := hw
  replace H : rivetref09_Fit.b73 l2 y39 l74 v77 = some o := H
  unfold rivetref09_Fit.b73 at H
  refine go_seq_k fun K78 hK78 => ?_
  have hJ3 : ∀ (a : Act) (w : World), Slots a 134 [(2, .slice A2 l2.length c2), (6, .pointer (some (⟨g2, 0, none⟩ : Addr))), (7, .pointer (some (⟨g27, 0, none⟩ : Addr))), (8, .int .i64 y39), (10, .int .i64 v77)] → St [] w0 w [box g27 32 [.slice Aa22 l70.length cc23, .slice Aa44 t42.length cc45, .slice Aa75 l74.length cc76], own 3 (eI .i64) Aa44 cc45 t42, own 72 eSapi_Sym Aa75 cc76 l74, own 3 (eI .i64) none 0 ([] : List Int), own 72 eSapi_Sym none 0 ([] : List Sapi_Sym), own 3 (eI .i64) none 0 ([] : List Int), own 38 (eI .u32) none 0 ([] : List Int), own 38 (eI .u32) Aa22 cc23 l70, own 72 eSapi_Sym none 0 ([] : List Sapi_Sym), own 3 (eI .i64) none 0 ([] : List Int), own 38 (eI .u32) none 0 ([] : List Int), box g2 32 [.slice none ([] : List Int).length 0, .slice none ([] : List Int).length 0, .slice none ([] : List Sapi_Sym).length 0]] → rivetref09_Fit.j3 v77 l2 l74 y39 = some o → K78 a w := by
   intro a w hs hw H
   unfold rivetref09_Fit.j3 at H
   refine hK78 _ _ ?_
   refine go_seq_k fun K84 hK84 => ?_
   have hJ9 : ∀ (Aa160 : Option Addr) (cc161 : Nat) (l162 : List Sapi_Sym) (a : Act) (w : World), Slots a 134 [(2, .slice A2 l2.length c2), (6, .pointer (some (⟨g2, 0, none⟩ : Addr))), (7, .pointer (some (⟨g27, 0, none⟩ : Addr))), (8, .int .i64 y39), (10, .int .i64 v77)] → St [] w0 w [box g27 32 [.slice Aa22 l70.length cc23, .slice Aa44 t42.length cc45, .slice Aa160 l162.length cc161], own 3 (eI .i64) Aa44 cc45 t42, own 3 (eI .i64) none 0 ([] : List Int), own 72 eSapi_Sym none 0 ([] : List Sapi_Sym), own 3 (eI .i64) none 0 ([] : List Int), own 38 (eI .u32) none 0 ([] : List Int), own 38 (eI .u32) Aa22 cc23 l70, own 72 eSapi_Sym none 0 ([] : List Sapi_Sym), own 3 (eI .i64) none 0 ([] : List Int), own 38 (eI .u32) none 0 ([] : List Int), box g2 32 [.slice none ([] : List Int).length 0, .slice none ([] : List Int).length 0, .slice none ([] : List Sapi_Sym).length 0], own 72 eSapi_Sym Aa160 cc161 l162] → rivetref09_Fit.j9 v77 l162 = some o → K84 a w := by
    intro Aa160 cc161 l162 a w hs hw H
    unfold rivetref09_Fit.j9 at H
    refine hK84 _ _ ?_
    refine go_plain [] [(10, .int .i64 (w64 (v77 + 1)))] hs ?_; clear hs; intro a hs
    replace hw := hw.up 10
    replace hw := hw.up 10
    replace hw := hw.up 10
    replace hw := hw.up 10
    replace hw := hw.up 10
    replace hw := hw.up 10
    replace hw := hw.up 10
    replace hw := hw.up 10
    replace hw := hw.up 10
    replace hw := hw.up 11
    replace hw := hw.up 11
    replace hw := hw.up 11
    exact round_end (l162, w64 (v77 + 1)) (Option.some.inj H).symm ⟨Aa160, cc161, hs.kx, hw⟩
   refine wp_block ?_
   refine go_sk fun K85 hK85 => ?_
   refine go_pvs 2 [] [(68, .slice A2 l2.length c2), (69, .int .i64 v77)] hs ?_; clear hs; intro a hs
   obtain ⟨hp86, H⟩ := ite_only H
   obtain ⟨ad87, rfl⟩ := (hr2.old hw).some hp86.1 hp86.2
   refine go_run hs (by rfl) (x_idx (T := 9) (sz := 1) (a := ad87) (n := l2.length) (cap := c2) (k := .i64) (i := v77) hp86) [68, 69] ?_; clear hs; intro a hs
   refine go_run hs (by rfl) (x_ld (off := 0) (p := ad87.add (v77.toNat * 1)) (v := .string (ix eS.d l2 v77)) (hr2.old hw) hp86 rfl) [70] ?_; clear hs; intro a hs
   obtain ⟨t89, hx90, H⟩ := bind_some H
   refine go_call hs (by rfl) (rivetref07_Fit.calls (ix eS.d l2 v77) t89 _ hx90) ?_
   rintro e wd91 ⟨rfl, hw92⟩
   refine ⟨_, rfl, ?_⟩
   replace hw := hw.call hw92
   clear hs; intro a hs; replace hs := hs.rms [71]
   refine go_pvs 6 [72] [(11, .string t89)] hs ?_; clear hs; intro a hs
   refine go_end (hK85 _ _ ?_)
   refine go_sp [] [(12, .int .i64 0)] hs ?_; clear hs; intro a hs
   refine go_seq_k fun K94 hK94 => ?_
   refine wp_block ?_
   obtain ⟨e95, hl95, HX95⟩ := bind_some H
   have hJ6 : ∀ (v105 : Int) (a : Act) (w : World), Slots a 134 [(2, .slice (some ad87) l2.length c2), (6, .pointer (some (⟨g2, 0, none⟩ : Addr))), (7, .pointer (some (⟨g27, 0, none⟩ : Addr))), (8, .int .i64 y39), (10, .int .i64 v77), (11, .string t89), (12, .int .i64 v105)] → St [] w0 w [box g27 32 [.slice Aa22 l70.length cc23, .slice Aa44 t42.length cc45, .slice Aa75 l74.length cc76], own 3 (eI .i64) Aa44 cc45 t42, own 72 eSapi_Sym Aa75 cc76 l74, own 3 (eI .i64) none 0 ([] : List Int), own 72 eSapi_Sym none 0 ([] : List Sapi_Sym), own 3 (eI .i64) none 0 ([] : List Int), own 38 (eI .u32) none 0 ([] : List Int), own 38 (eI .u32) Aa22 cc23 l70, own 72 eSapi_Sym none 0 ([] : List Sapi_Sym), own 3 (eI .i64) none 0 ([] : List Int), own 38 (eI .u32) none 0 ([] : List Int), box g2 32 [.slice none ([] : List Int).length 0, .slice none ([] : List Int).length 0, .slice none ([] : List Sapi_Sym).length 0]] → rivetref09_Fit.j6 l74 v77 l2 y39 t89 v105 = some o → K94 a w := by
    intro v105 a w hs hw H
    unfold rivetref09_Fit.j6 at H
    refine hK94 _ _ ?_
    refine go_seq_k fun K106 hK106 => ?_
    have hJ8 : ∀ (a : Act) (w : World), Slots a 134 [(2, .slice (some ad87) l2.length c2), (6, .pointer (some (⟨g2, 0, none⟩ : Addr))), (7, .pointer (some (⟨g27, 0, none⟩ : Addr))), (8, .int .i64 y39), (10, .int .i64 v77), (11, .string t89), (12, .int .i64 v105)] → St [] w0 w [box g27 32 [.slice Aa22 l70.length cc23, .slice Aa44 t42.length cc45, .slice Aa75 l74.length cc76], own 3 (eI .i64) Aa44 cc45 t42, own 72 eSapi_Sym Aa75 cc76 l74, own 3 (eI .i64) none 0 ([] : List Int), own 72 eSapi_Sym none 0 ([] : List Sapi_Sym), own 3 (eI .i64) none 0 ([] : List Int), own 38 (eI .u32) none 0 ([] : List Int), own 38 (eI .u32) Aa22 cc23 l70, own 72 eSapi_Sym none 0 ([] : List Sapi_Sym), own 3 (eI .i64) none 0 ([] : List Int), own 38 (eI .u32) none 0 ([] : List Int), box g2 32 [.slice none ([] : List Int).length 0, .slice none ([] : List Int).length 0, .slice none ([] : List Sapi_Sym).length 0]] → rivetref09_Fit.j8 v77 l2 y39 v105 l74 t89 = some o → K106 a w := by
     intro a w hs hw H
     unfold rivetref09_Fit.j8 at H
     refine hK106 _ _ ?_
     refine go_seq_k fun K114 hK114 => ?_
     refine d_region [18] [(true, [0, 1, 2, 3, 4, 5, 6, 7, 8, 9, 10, 11, 12, 14, 15, 16, 17], 13), (true, [], 18)] [19] (by kernel_rfl) (by kernel_rfl) (fun c a d v w h => by cases d <;> exact h) ?_
     refine d_seg ?_
     refine c_pvs [0, 1, 2] [3, 4, 5, 6, 7, 8, 9, 10, 11, 12, 14, 15, 16, 17] [11] [(105, .string t89), (106, .slice (some ad87) l2.length c2), (107, .int .i64 v77)] hs ?_; clear hs; intro a hs
     obtain ⟨hp115, H⟩ := ite_only H
     refine d_run hs (by rfl) (fun wx hbx => (x_idx (T := 9) (sz := 1) (a := ad87) (n := l2.length) (cap := c2) (k := .i64) (i := v77) hp115)) [106, 107] ?_; clear hs; intro a hs
     refine d_run hs (by rfl) (fun wx hbx => (x_ld (off := 0) (p := ad87.add (v77.toNat * 1)) (v := .string (ix eS.d l2 v77)) (Rd.bn (hr2.old hw) hbx) hp115 rfl)) [108] ?_; clear hs; intro a hs
     refine c_pvs [5, 6, 7, 8, 9] [10, 11, 12, 14, 15, 16, 17] [109] [(112, .int .i64 (w64 (((ix eS.d l2 v77).size : Int) + v77))), (114, .int .i64 (w64 (y39 + 1)))] hs ?_; clear hs; intro a hs
     obtain ⟨hp116, H⟩ := ite_only H
     refine d_run hs (by rfl) (fun wx hbx => (x_rem (k := .i64) (m := w64 (((ix eS.d l2 v77).size : Int) + v77)) (n := w64 (y39 + 1)) (by kernel_rfl) (by kernel_rfl) hp116)) [112, 114] ?_; clear hs; intro a hs
     refine c_pvs [11, 12, 14] [15, 16, 17] [105, 115] [(117, .agg #[.string t89, .int .i64 (w64 (4 * ((w64 (((ix eS.d l2 v77).size : Int) + v77)).tmod (w64 (y39 + 1)))))]), (119, .pointer (some (⟨g27, 2, none⟩ : Addr)))] hs ?_; clear hs; intro a hs
     refine d_run hs (by rfl) (fun wx hbx => (x_bldD (g := g27) (o := 2) (p := (⟨g27, 2, none⟩ : Addr)) (v := .slice Aa75 l74.length cc76) (hw.up 0) hbx)) [119] ?_; clear hs; intro a hs
     refine c_pvs [16] [17] [] [(121, .int .i64 v105)] hs ?_; clear hs; intro a hs
     obtain ⟨hp117, H⟩ := ite_only H
     obtain ⟨Aa118, cc119, hx120, hc121⟩ := w_lo (P := Tryd.prog) (ty := 30) (E := eSapi_Sym) (T := 72) (t := 30) (x := (Operand.tmp 120)) (y := (Operand.tmp 121)) (k := .i64) hs (by kernel_rfl) (by kernel_rfl) (Rd.of_own (hw.up 2)) (by kernel_rfl) (by kernel_rfl) hp117.1 hp117.2
     refine d_run hs (by rfl) (fun wx hbx => (hx120 wx)) [120, 121] ?_; clear hs; intro a hs
     refine c_end ?_
     intro wq hbq
     replace hw := hw.behind hbq
     have hbc := Below.refl wq.heap.size wq
     obtain ⟨Aa123, cc124, wd125, hx126, hwn⟩ := n_lit (P := Tryd.prog) (t := 30) (ty := 30) (T := 72) (len := 1) (parts := #[(0, (Operand.tmp 117))]) (z := .agg #[.string (⟨#[]⟩ : ByteArray), .int .i64 0]) (bytes := 24) (cells := #[.string t89, .int .i64 (w64 (4 * ((w64 (((ix eS.d l2 v77).size : Int) + v77)).tmod (w64 (y39 + 1)))))]) hs (nil_of hw) eSapi_Sym ([(⟨t89, w64 (4 * ((w64 (((ix eS.d l2 v77).size : Int) + v77)).tmod (w64 (y39 + 1))))⟩ : Sapi_Sym)] : List Sapi_Sym) (by kernel_rfl) (by kernel_rfl) (by kernel_rfl) (by kernel_rfl) (by kernel_rfl) (by kernel_rfl) (by kernel_rfl)
     replace hbc := hwn.below
     replace hw := hw.call hwn
     clear hwn
     refine p_run hs (by rfl) hx126 [117] ?_; clear hs; intro a hs
     refine c_done ⟨.inr (bn_of hbq hbc), ?_⟩
     clear hbc hbq
     refine d_seg ?_
     refine c_end ?_
     intro wq hbq
     replace hw := hw.behind hbq
     obtain ⟨hp128, H⟩ := ite_only H
     have hsrc133 : Src Tryd.prog eSapi_Sym.sz 30 (.slice Aa118 (l74.drop (v105 : Int).toNat).length cc119) (l74.drop (v105 : Int).toNat).length ((l74.drop (v105 : Int).toNat).flatMap eSapi_Sym.enc) _ := (Src.of_rd (E := eSapi_Sym) (e' := 72) (by kernel_rfl) (hc121 _ (Rd.of_own (hw.up 3))))
     obtain ⟨Aa129, cc130, wd131, hx132, hw⟩ := x_append (P := Tryd.prog) (t := 30) (tx := 30) (ty := 30) (x := (Operand.tmp 118)) (y := (Operand.tmp 122)) (z := .agg #[.string (⟨#[]⟩ : ByteArray), .int .i64 0]) (bytes := 24) (l2 := l74.drop (v105 : Int).toNat) hs hw (by kernel_rfl) (by kernel_rfl) (by kernel_rfl) (by kernel_rfl) (by kernel_rfl) hsrc133 (by omega) (by omega)
     refine p_run hs (by rfl) hx132 [118, 122] ?_; clear hs; intro a hs
     refine c_done ⟨.inl (by kernel_rfl), ?_⟩
     clear hbq
     refine d_last ?_
     refine c_pvs [19] [] [123] [(13, .slice Aa129 (([(⟨t89, w64 (4 * ((w64 (((ix eS.d l2 v77).size : Int) + v77)).tmod (w64 (y39 + 1))))⟩ : Sapi_Sym)] : List Sapi_Sym) ++ (l74.drop (v105 : Int).toNat)).length cc130)] hs ?_; clear hs; intro a hs
     refine c_end ?_
     intro wq hbq
     replace hw := hw.behind hbq
     refine hK114 _ _ ?_
     refine go_region ?_
     obtain ⟨Aa134, cc135, wd136, hx137, hw⟩ := n_lit0 (P := Tryd.prog) (t := 30) (ty := 30) (T := 72) hs hw eSapi_Sym (by kernel_rfl) (by kernel_rfl)
     refine go_run hs (by rfl) hx137 [] ?_; clear hs; intro a hs
     refine go_pvs 2 [] [(125, .pointer (some (⟨g27, 2, none⟩ : Addr)))] hs ?_; clear hs; intro a hs
     refine go_run hs (by rfl) (x_bld (g := g27) (o := 2) (p := (⟨g27, 2, none⟩ : Addr)) (v := .slice Aa75 l74.length cc76) (hw.up 2)) [125] ?_; clear hs; intro a hs
     refine go_pvs 4 [12] [(127, .int .i64 v105)] hs ?_; clear hs; intro a hs
     obtain ⟨hp139, H⟩ := ite_only H
     obtain ⟨Aa140, cc141, hx142, hc143⟩ := c_hi (P := Tryd.prog) (ty := 30) (E := eSapi_Sym) (T := 72) (t := 30) (x := (Operand.tmp 126)) (y := (Operand.tmp 127)) (k := .i64) hs (by kernel_rfl) (by kernel_rfl) (Rd.of_own (hw.up 4)) (by kernel_rfl) (by kernel_rfl) hp139.1 hp139.2
     refine go_run hs (by rfl) hx142 [126, 127] ?_; clear hs; intro a hs
     obtain ⟨hp145, H⟩ := ite_only H
     have hsrc150 : Src Tryd.prog eSapi_Sym.sz 30 (.slice Aa140 (l74.take (v105 : Int).toNat).length cc141) (l74.take (v105 : Int).toNat).length ((l74.take (v105 : Int).toNat).flatMap eSapi_Sym.enc) _ := (Src.of_rd (E := eSapi_Sym) (e' := 72) (by kernel_rfl) (hc143 _ (Rd.of_own (hw.up 4))))
     obtain ⟨Aa146, cc147, wd148, hx149, hw⟩ := x_append (P := Tryd.prog) (t := 30) (tx := 30) (ty := 30) (x := (Operand.tmp 124)) (y := (Operand.tmp 128)) (z := .agg #[.string (⟨#[]⟩ : ByteArray), .int .i64 0]) (bytes := 24) (l2 := l74.take (v105 : Int).toNat) hs hw (by kernel_rfl) (by kernel_rfl) (by kernel_rfl) (by kernel_rfl) (by kernel_rfl) hsrc150 (by omega) (by omega)
     refine go_run hs (by rfl) hx149 [124, 128] ?_; clear hs; intro a hs
     refine go_pvs 7 [13] [(130, .slice Aa129 (([(⟨t89, w64 (4 * ((w64 (((ix eS.d l2 v77).size : Int) + v77)).tmod (w64 (y39 + 1))))⟩ : Sapi_Sym)] : List Sapi_Sym) ++ (l74.drop (v105 : Int).toNat)).length cc130)] hs ?_; clear hs; intro a hs
     obtain ⟨hp151, H⟩ := ite_only H
     have hsrc156 : Src Tryd.prog eSapi_Sym.sz 30 (.slice Aa129 (([(⟨t89, w64 (4 * ((w64 (((ix eS.d l2 v77).size : Int) + v77)).tmod (w64 (y39 + 1))))⟩ : Sapi_Sym)] : List Sapi_Sym) ++ (l74.drop (v105 : Int).toNat)).length cc130) (([(⟨t89, w64 (4 * ((w64 (((ix eS.d l2 v77).size : Int) + v77)).tmod (w64 (y39 + 1))))⟩ : Sapi_Sym)] : List Sapi_Sym) ++ (l74.drop (v105 : Int).toNat)).length ((([(⟨t89, w64 (4 * ((w64 (((ix eS.d l2 v77).size : Int) + v77)).tmod (w64 (y39 + 1))))⟩ : Sapi_Sym)] : List Sapi_Sym) ++ (l74.drop (v105 : Int).toNat)).flatMap eSapi_Sym.enc) _ := (Src.of_rd (E := eSapi_Sym) (e' := 72) (by kernel_rfl) (Rd.of_own (hw.up 1)))
     obtain ⟨Aa152, cc153, wd154, hx155, hw⟩ := x_append (P := Tryd.prog) (t := 30) (tx := 30) (ty := 30) (x := (Operand.tmp 129)) (y := (Operand.tmp 130)) (z := .agg #[.string (⟨#[]⟩ : ByteArray), .int .i64 0]) (bytes := 24) (l2 := ([(⟨t89, w64 (4 * ((w64 (((ix eS.d l2 v77).size : Int) + v77)).tmod (w64 (y39 + 1))))⟩ : Sapi_Sym)] : List Sapi_Sym) ++ (l74.drop (v105 : Int).toNat)) hs hw (by kernel_rfl) (by kernel_rfl) (by kernel_rfl) (by kernel_rfl) (by kernel_rfl) hsrc156 (by omega) (by omega)
     refine go_run hs (by rfl) hx155 [129, 130] ?_; clear hs; intro a hs
     refine go_pvs 9 [] [(132, .pointer (some (⟨g27, 2, none⟩ : Addr)))] hs ?_; clear hs; intro a hs
     replace hw := hw.up 2
     obtain ⟨wd157, hx158, hw⟩ := x_bput (P := Tryd.prog) (ty := 0) (t := 30) (y := (Operand.tmp 132)) (z := (Operand.tmp 131)) (o := 2) (p := (⟨g27, 2, none⟩ : Addr)) (v := .slice Aa152 ((([] : List Sapi_Sym) ++ (l74.take (v105 : Int).toNat)) ++ (([(⟨t89, w64 (4 * ((w64 (((ix eS.d l2 v77).size : Int) + v77)).tmod (w64 (y39 + 1))))⟩ : Sapi_Sym)] : List Sapi_Sym) ++ (l74.drop (v105 : Int).toNat))).length cc153) (vs := [.slice Aa152 ((([] : List Sapi_Sym) ++ (l74.take (v105 : Int).toNat)) ++ (([(⟨t89, w64 (4 * ((w64 (((ix eS.d l2 v77).size : Int) + v77)).tmod (w64 (y39 + 1))))⟩ : Sapi_Sym)] : List Sapi_Sym) ++ (l74.drop (v105 : Int).toNat))).length cc153]) (cs' := [.slice Aa22 l70.length cc23, .slice Aa44 t42.length cc45, .slice Aa152 ((([] : List Sapi_Sym) ++ (l74.take (v105 : Int).toNat)) ++ (([(⟨t89, w64 (4 * ((w64 (((ix eS.d l2 v77).size : Int) + v77)).tmod (w64 (y39 + 1))))⟩ : Sapi_Sym)] : List Sapi_Sym) ++ (l74.drop (v105 : Int).toNat))).length cc153]) hs hw (by kernel_rfl) rfl (by kernel_rfl) rfl (by kernel_rfl) (by kernel_rfl) (by simp [Value.oneCell']) rfl
     refine go_unit hs (by rfl) hx158 [131, 132] ?_; clear hs; intro a hs
     refine go_end ?_
     refine ib_norm ?_
     replace hw := hw.up 1
     replace hw := hw.up 13
     replace hw := hw.up 13
     replace hw := hw.up 13
     replace hw := hw.up 13
     replace hw := hw.up 13
     replace hw := hw.up 13
     replace hw := hw.up 13
     replace hw := hw.up 13
     replace hw := hw.up 13
     replace hw := hw.up 12
     replace hw := hw.up 11
     replace hw := hw.only 12
     exact hJ9 Aa152 cc153 ((([] : List Sapi_Sym) ++ (l74.take (v105 : Int).toNat)) ++ (([(⟨t89, w64 (4 * ((w64 (((ix eS.d l2 v77).size : Int) + v77)).tmod (w64 (y39 + 1))))⟩ : Sapi_Sym)] : List Sapi_Sym) ++ (l74.drop (v105 : Int).toNat))) _ _ hs.kx hw H
    refine go_seq_k fun K107 hK107 => ?_
    have hJ7 : ∀ (v111 : Bool) (a : Act) (w : World), Slots a 134 [(2, .slice (some ad87) l2.length c2), (6, .pointer (some (⟨g2, 0, none⟩ : Addr))), (7, .pointer (some (⟨g27, 0, none⟩ : Addr))), (8, .int .i64 y39), (10, .int .i64 v77), (11, .string t89), (12, .int .i64 v105), (104, .bool v111)] → St [] w0 w [box g27 32 [.slice Aa22 l70.length cc23, .slice Aa44 t42.length cc45, .slice Aa75 l74.length cc76], own 3 (eI .i64) Aa44 cc45 t42, own 72 eSapi_Sym Aa75 cc76 l74, own 3 (eI .i64) none 0 ([] : List Int), own 72 eSapi_Sym none 0 ([] : List Sapi_Sym), own 3 (eI .i64) none 0 ([] : List Int), own 38 (eI .u32) none 0 ([] : List Int), own 38 (eI .u32) Aa22 cc23 l70, own 72 eSapi_Sym none 0 ([] : List Sapi_Sym), own 3 (eI .i64) none 0 ([] : List Int), own 38 (eI .u32) none 0 ([] : List Int), box g2 32 [.slice none ([] : List Int).length 0, .slice none ([] : List Int).length 0, .slice none ([] : List Sapi_Sym).length 0]] → rivetref09_Fit.j7 v77 l74 l2 y39 v105 t89 v111 = some o → K107 a w := by
     intro v111 a w hs hw H
     unfold rivetref09_Fit.j7 at H
     refine hK107 _ _ ?_
     refine go_cond hs v111 (fun hc => ?_) fun hc => ?_
     ·replace H := ite_t H hc
      have hb112 := hc
      rw [hb112] at hs
      refine wp_exit ?_
      refine th_exit ?_
      refine in_block ?_
      replace hw := hw.up 2
      replace hw := hw.up 11
      replace hw := hw.up 11
      replace hw := hw.up 11
      replace hw := hw.up 11
      replace hw := hw.up 11
      replace hw := hw.up 11
      replace hw := hw.up 11
      replace hw := hw.up 11
      replace hw := hw.up 11
      replace hw := hw.up 11
      replace hw := hw.up 11
      exact hJ9 Aa75 cc76 l74 _ _ hs.kx hw H
     ·replace H := ite_f H (ff hc)
      have hb113 := hc
      rw [hb113] at hs
      refine wp_skip ?_
      replace hw := hw.up 11
      replace hw := hw.up 11
      replace hw := hw.up 11
      replace hw := hw.up 11
      replace hw := hw.up 11
      replace hw := hw.up 11
      replace hw := hw.up 11
      replace hw := hw.up 11
      replace hw := hw.up 11
      replace hw := hw.up 11
      replace hw := hw.up 11
      replace hw := hw.up 11
      exact hJ8 _ _ hs.kx hw H
    refine go_region ?_
    refine go_pvs 2 [] [(90, .int .i64 v105), (91, .pointer (some (⟨g27, 2, none⟩ : Addr)))] hs ?_; clear hs; intro a hs
    refine go_run hs (by rfl) (x_bld (g := g27) (o := 2) (p := (⟨g27, 2, none⟩ : Addr)) (v := .slice Aa75 l74.length cc76) (hw.up 0)) [91] ?_; clear hs; intro a hs
    refine go_pvs 6 [90, 92] [(95, .bool (decide (v105 < (l74.length : Int))))] hs ?_; clear hs; intro a hs
    cases hb108 : (decide (v105 < (l74.length : Int)))
    ·replace H := ite_f H (of_decide_eq_false hb108)
     rw [hb108] at hs
     refine go_pvs 15 [95] [(104, .bool false)] hs ?_; clear hs; intro a hs
     refine go_end ?_
     replace hw := hw.up 11
     replace hw := hw.up 11
     replace hw := hw.up 11
     replace hw := hw.up 11
     replace hw := hw.up 11
     replace hw := hw.up 11
     replace hw := hw.up 11
     replace hw := hw.up 11
     replace hw := hw.up 11
     replace hw := hw.up 11
     replace hw := hw.up 11
     replace hw := hw.up 11
     exact hJ7 false _ _ hs.kx hw H
    ·replace H := ite_t H (of_decide_eq_true hb108)
     rw [hb108] at hs
     refine go_pvs 7 [] [(96, .pointer (some (⟨g27, 2, none⟩ : Addr)))] hs ?_; clear hs; intro a hs
     refine go_run hs (by rfl) (x_bld (g := g27) (o := 2) (p := (⟨g27, 2, none⟩ : Addr)) (v := .slice Aa75 l74.length cc76) (hw.up 0)) [96] ?_; clear hs; intro a hs
     refine go_pvs 9 [] [(98, .int .i64 v105)] hs ?_; clear hs; intro a hs
     obtain ⟨hp109, H⟩ := ite_only H
     obtain ⟨ad110, rfl⟩ := (Rd.of_own (hw.up 2)).some hp109.1 hp109.2
     refine go_run hs (by rfl) (x_idx (T := 72) (sz := 2) (a := ad110) (n := l74.length) (cap := cc76) (k := .i64) (i := v105) hp109) [97, 98] ?_; clear hs; intro a hs
     refine go_pvs 11 [99] [(100, .pointer (some ((ad110.add (v105.toNat * 2) : Addr).add 0)))] hs ?_; clear hs; intro a hs
     refine go_run hs (by rfl) (x_ld (off := 0) (p := (ad110.add (v105.toNat * 2) : Addr).add 0) (v := .string ((ix eSapi_Sym.d l74 v105).Name)) (Rd.of_own (hw.up 2)) hp109 (by simp only [add_add', Nat.add_assoc]; rfl)) [100] ?_; clear hs; intro a hs
     refine go_pvs 15 [95, 101] [(104, .bool (((ix eSapi_Sym.d l74 v105).Name).toList == t89.toList))] hs ?_; clear hs; intro a hs
     refine go_end ?_
     replace hw := hw.up 11
     replace hw := hw.up 11
     replace hw := hw.up 11
     replace hw := hw.up 11
     replace hw := hw.up 11
     replace hw := hw.up 11
     replace hw := hw.up 11
     replace hw := hw.up 11
     replace hw := hw.up 11
     replace hw := hw.up 11
     replace hw := hw.up 11
     replace hw := hw.up 11
     exact hJ7 (((ix eSapi_Sym.d l74 v105).Name).toList == t89.toList) _ _ hs.kx hw H
   clear H
   refine go_loop (σ := Int) (fun σ a w => Slots a 134 [(2, .slice (some ad87) l2.length c2), (6, .pointer (some (⟨g2, 0, none⟩ : Addr))), (7, .pointer (some (⟨g27, 0, none⟩ : Addr))), (8, .int .i64 y39), (10, .int .i64 v77), (11, .string t89), (12, .int .i64 σ)] ∧ St [] w0 w [box g27 32 [.slice Aa22 l70.length cc23, .slice Aa44 t42.length cc45, .slice Aa75 l74.length cc76], own 3 (eI .i64) Aa44 cc45 t42, own 72 eSapi_Sym Aa75 cc76 l74, own 3 (eI .i64) none 0 ([] : List Int), own 72 eSapi_Sym none 0 ([] : List Sapi_Sym), own 3 (eI .i64) none 0 ([] : List Int), own 38 (eI .u32) none 0 ([] : List Int), own 38 (eI .u32) Aa22 cc23 l70, own 72 eSapi_Sym none 0 ([] : List Sapi_Sym), own 3 (eI .i64) none 0 ([] : List Int), own 38 (eI .u32) none 0 ([] : List Int), box g2 32 [.slice none ([] : List Int).length 0, .slice none ([] : List Int).length 0, .slice none ([] : List Sapi_Sym).length 0]]) hl95 (by exact ⟨hs.kx, hw⟩) ?_
   rintro v96 a w ⟨hs, hw⟩ o H hr95
   replace hs : Slots a 134 [(2, .slice (some ad87) l2.length c2), (6, .pointer (some (⟨g2, 0, none⟩ : Addr))), (7, .pointer (some (⟨g27, 0, none⟩ : Addr))), (8, .int .i64 y39), (10, .int .i64 v77), (11, .string t89), (12, .int .i64 v96)] := hs
   replace hw : St [] w0 w [box g27 32 [.slice Aa22 l70.length cc23, .slice Aa44 t42.length cc45, .slice Aa75 l74.length cc76], own 3 (eI .i64) Aa44 cc45 t42, own 72 eSapi_Sym Aa75 cc76 l74, own 3 (eI .i64) none 0 ([] : List Int), own 72 eSapi_Sym none 0 ([] : List Sapi_Sym), own 3 (eI .i64) none 0 ([] : List Int), own 38 (eI .u32) none 0 ([] : List Int), own 38 (eI .u32) Aa22 cc23 l70, own 72 eSapi_Sym none 0 ([] : List Sapi_Sym), own 3 (eI .i64) none 0 ([] : List Int), own 38 (eI .u32) none 0 ([] : List Int), box g2 32 [.slice none ([] : List Int).length 0, .slice none ([] : List Int).length 0, .slice none ([] : List Sapi_Sym).length 0]] := hw
   replace H : rivetref09_Fit.b95 l74 t89 v96 = some o := H
   unfold rivetref09_Fit.b95 at H
   refine go_seq_k fun K97 hK97 => ?_
   have hJ5 : ∀ (a : Act) (w : World), Slots a 134 [(2, .slice (some ad87) l2.length c2), (6, .pointer (some (⟨g2, 0, none⟩ : Addr))), (7, .pointer (some (⟨g27, 0, none⟩ : Addr))), (8, .int .i64 y39), (10, .int .i64 v77), (11, .string t89), (12, .int .i64 v96)] → St [] w0 w [box g27 32 [.slice Aa22 l70.length cc23, .slice Aa44 t42.length cc45, .slice Aa75 l74.length cc76], own 3 (eI .i64) Aa44 cc45 t42, own 72 eSapi_Sym Aa75 cc76 l74, own 3 (eI .i64) none 0 ([] : List Int), own 72 eSapi_Sym none 0 ([] : List Sapi_Sym), own 3 (eI .i64) none 0 ([] : List Int), own 38 (eI .u32) none 0 ([] : List Int), own 38 (eI .u32) Aa22 cc23 l70, own 72 eSapi_Sym none 0 ([] : List Sapi_Sym), own 3 (eI .i64) none 0 ([] : List Int), own 38 (eI .u32) none 0 ([] : List Int), box g2 32 [.slice none ([] : List Int).length 0, .slice none ([] : List Int).length 0, .slice none ([] : List Sapi_Sym).length 0]] → rivetref09_Fit.j5 v96 = some o → K97 a w := by
    intro a w hs hw H
    unfold rivetref09_Fit.j5 at H
    refine hK97 _ _ ?_
    refine wp_block ?_
    refine go_plain [] [(12, .int .i64 (w64 (v96 + 1)))] hs ?_; clear hs; intro a hs
    refine ib_norm ?_
    replace hw := hw.up 11
    replace hw := hw.up 11
    replace hw := hw.up 11
    replace hw := hw.up 11
    replace hw := hw.up 11
    replace hw := hw.up 11
    replace hw := hw.up 11
    replace hw := hw.up 11
    replace hw := hw.up 11
    replace hw := hw.up 11
    replace hw := hw.up 11
    replace hw := hw.up 11
    exact round_end (w64 (v96 + 1)) (Option.some.inj H).symm ⟨hs.kx, hw⟩
   refine go_seq_k fun K98 hK98 => ?_
   have hJ4 : ∀ (v102 : Bool) (a : Act) (w : World), Slots a 134 [(2, .slice (some ad87) l2.length c2), (6, .pointer (some (⟨g2, 0, none⟩ : Addr))), (7, .pointer (some (⟨g27, 0, none⟩ : Addr))), (8, .int .i64 y39), (10, .int .i64 v77), (11, .string t89), (12, .int .i64 v96), (87, .bool v102)] → St [] w0 w [box g27 32 [.slice Aa22 l70.length cc23, .slice Aa44 t42.length cc45, .slice Aa75 l74.length cc76], own 3 (eI .i64) Aa44 cc45 t42, own 72 eSapi_Sym Aa75 cc76 l74, own 3 (eI .i64) none 0 ([] : List Int), own 72 eSapi_Sym none 0 ([] : List Sapi_Sym), own 3 (eI .i64) none 0 ([] : List Int), own 38 (eI .u32) none 0 ([] : List Int), own 38 (eI .u32) Aa22 cc23 l70, own 72 eSapi_Sym none 0 ([] : List Sapi_Sym), own 3 (eI .i64) none 0 ([] : List Int), own 38 (eI .u32) none 0 ([] : List Int), box g2 32 [.slice none ([] : List Int).length 0, .slice none ([] : List Int).length 0, .slice none ([] : List Sapi_Sym).length 0]] → rivetref09_Fit.j4 v96 v102 = some o → K98 a w := by
    intro v102 a w hs hw H
    unfold rivetref09_Fit.j4 at H
    refine hK98 _ _ ?_
    refine go_cond hs v102 (fun hc => ?_) fun hc => ?_
    ·replace H := ite_t H hc
     have hb103 := hc
     rw [hb103] at hs
     refine wp_skip ?_
     replace hw := hw.up 11
     replace hw := hw.up 11
     replace hw := hw.up 11
     replace hw := hw.up 11
     replace hw := hw.up 11
     replace hw := hw.up 11
     replace hw := hw.up 11
     replace hw := hw.up 11
     replace hw := hw.up 11
     replace hw := hw.up 11
     replace hw := hw.up 11
     replace hw := hw.up 11
     exact hJ5 _ _ hs.kx hw H
    ·replace H := ite_f H (ff hc)
     have hb104 := hc
     rw [hb104] at hs
     refine wp_exit ?_
     refine th_exit ?_
     refine th_exit ?_
     refine in_block ?_
     replace hw := hw.up 11
     replace hw := hw.up 11
     replace hw := hw.up 11
     replace hw := hw.up 11
     replace hw := hw.up 11
     replace hw := hw.up 11
     replace hw := hw.up 11
     replace hw := hw.up 11
     replace hw := hw.up 11
     replace hw := hw.up 11
     replace hw := hw.up 11
     replace hw := hw.up 11
     rw [← hr95 _ (Option.some.inj H).symm] at HX95
     exact hJ6 v96 _ _ hs.kx hw HX95
   refine go_region ?_
   refine go_pvs 2 [] [(73, .int .i64 v96), (74, .pointer (some (⟨g27, 2, none⟩ : Addr)))] hs ?_; clear hs; intro a hs
   refine go_run hs (by rfl) (x_bld (g := g27) (o := 2) (p := (⟨g27, 2, none⟩ : Addr)) (v := .slice Aa75 l74.length cc76) (hw.up 0)) [74] ?_; clear hs; intro a hs
   refine go_pvs 6 [73, 75] [(78, .bool (decide (v96 < (l74.length : Int))))] hs ?_; clear hs; intro a hs
   cases hb99 : (decide (v96 < (l74.length : Int)))
   ·replace H := ite_f H (of_decide_eq_false hb99)
    rw [hb99] at hs
    refine go_pvs 15 [78] [(87, .bool false)] hs ?_; clear hs; intro a hs
    refine go_end ?_
    replace hw := hw.up 11
    replace hw := hw.up 11
    replace hw := hw.up 11
    replace hw := hw.up 11
    replace hw := hw.up 11
    replace hw := hw.up 11
    replace hw := hw.up 11
    replace hw := hw.up 11
    replace hw := hw.up 11
    replace hw := hw.up 11
    replace hw := hw.up 11
    replace hw := hw.up 11
    exact hJ4 false _ _ hs.kx hw H
   ·replace H := ite_t H (of_decide_eq_true hb99)
    rw [hb99] at hs
    refine go_pvs 7 [] [(79, .pointer (some (⟨g27, 2, none⟩ : Addr)))] hs ?_; clear hs; intro a hs
    refine go_run hs (by rfl) (x_bld (g := g27) (o := 2) (p := (⟨g27, 2, none⟩ : Addr)) (v := .slice Aa75 l74.length cc76) (hw.up 0)) [79] ?_; clear hs; intro a hs
    refine go_pvs 9 [] [(81, .int .i64 v96)] hs ?_; clear hs; intro a hs
    obtain ⟨hp100, H⟩ := ite_only H
    obtain ⟨ad101, rfl⟩ := (Rd.of_own (hw.up 2)).some hp100.1 hp100.2
    refine go_run hs (by rfl) (x_idx (T := 72) (sz := 2) (a := ad101) (n := l74.length) (cap := cc76) (k := .i64) (i := v96) hp100) [80, 81] ?_; clear hs; intro a hs
    refine go_pvs 11 [82] [(83, .pointer (some ((ad101.add (v96.toNat * 2) : Addr).add 0)))] hs ?_; clear hs; intro a hs
    refine go_run hs (by rfl) (x_ld (off := 0) (p := (ad101.add (v96.toNat * 2) : Addr).add 0) (v := .string ((ix eSapi_Sym.d l74 v96).Name)) (Rd.of_own (hw.up 2)) hp100 (by simp only [add_add', Nat.add_assoc]; rfl)) [83] ?_; clear hs; intro a hs
    refine go_pvs 15 [78, 84] [(87, .bool (Op.bytesLess ((ix eSapi_Sym.d l74 v96).Name).toList t89.toList))] hs ?_; clear hs; intro a hs
    refine go_end ?_
    replace hw := hw.up 11
    replace hw := hw.up 11
    replace hw := hw.up 11
    replace hw := hw.up 11
    replace hw := hw.up 11
    replace hw := hw.up 11
    replace hw := hw.up 11
    replace hw := hw.up 11
    replace hw := hw.up 11
    replace hw := hw.up 11
    replace hw := hw.up 11
    replace hw := hw.up 11
    exact hJ4 (Op.bytesLess ((ix eSapi_Sym.d l74 v96).Name).toList t89.toList) _ _ hs.kx hw H
  refine go_seq_k fun K79 hK79 => ?_
  have hJ2 : ∀ (v81 : Bool) (a : Act) (w : World), Slots a 134 [(2, .slice A2 l2.length c2), (6, .pointer (some (⟨g2, 0, none⟩ : Addr))), (7, .pointer (some (⟨g27, 0, none⟩ : Addr))), (8, .int .i64 y39), (10, .int .i64 v77), (65, .bool v81)] → St [] w0 w [box g27 32 [.slice Aa22 l70.length cc23, .slice Aa44 t42.length cc45, .slice Aa75 l74.length cc76], own 3 (eI .i64) Aa44 cc45 t42, own 72 eSapi_Sym Aa75 cc76 l74, own 3 (eI .i64) none 0 ([] : List Int), own 72 eSapi_Sym none 0 ([] : List Sapi_Sym), own 3 (eI .i64) none 0 ([] : List Int), own 38 (eI .u32) none 0 ([] : List Int), own 38 (eI .u32) Aa22 cc23 l70, own 72 eSapi_Sym none 0 ([] : List Sapi_Sym), own 3 (eI .i64) none 0 ([] : List Int), own 38 (eI .u32) none 0 ([] : List Int), box g2 32 [.slice none ([] : List Int).length 0, .slice none ([] : List Int).length 0, .slice none ([] : List Sapi_Sym).length 0]] → rivetref09_Fit.j2 v77 l2 l74 y39 v81 = some o → K79 a w := by
   intro v81 a w hs hw H
   unfold rivetref09_Fit.j2 at H
   refine hK79 _ _ ?_
   refine go_cond hs v81 (fun hc => ?_) fun hc => ?_
   ·replace H := ite_t H hc
    have hb82 := hc
    rw [hb82] at hs
    refine wp_skip ?_
    replace hw := hw.up 11
    replace hw := hw.up 11
    replace hw := hw.up 11
    replace hw := hw.up 11
    replace hw := hw.up 11
    replace hw := hw.up 11
    replace hw := hw.up 11
    replace hw := hw.up 11
    replace hw := hw.up 11
    replace hw := hw.up 11
    replace hw := hw.up 11
    replace hw := hw.up 11
    exact hJ3 _ _ hs.kx hw H
   ·replace H := ite_f H (ff hc)
    have hb83 := hc
    rw [hb83] at hs
    refine wp_exit ?_
    refine th_exit ?_
    refine th_exit ?_
    refine in_block ?_
    replace hw := hw.up 11
    replace hw := hw.up 11
    replace hw := hw.up 11
    replace hw := hw.up 11
    replace hw := hw.up 11
    replace hw := hw.up 11
    replace hw := hw.up 11
    replace hw := hw.up 11
    replace hw := hw.up 11
    replace hw := hw.up 11
    replace hw := hw.up 11
    replace hw := hw.up 11
    rw [← hr73 _ (Option.some.inj H).symm] at HX73
    exact hJ10 Aa75 cc76 l74 _ _ hs.kx hw HX73
  refine go_region ?_
  refine go_pvs 5 [] [(62, .bool (decide (v77 < (l2.length : Int))))] hs ?_; clear hs; intro a hs
  cases hb80 : (decide (v77 < (l2.length : Int)))
  ·replace H := ite_f H (of_decide_eq_false hb80)
   rw [hb80] at hs
   refine go_pvs 8 [62] [(65, .bool false)] hs ?_; clear hs; intro a hs
   refine go_end ?_
   replace hw := hw.up 11
   replace hw := hw.up 11
   replace hw := hw.up 11
   replace hw := hw.up 11
   replace hw := hw.up 11
   replace hw := hw.up 11
   replace hw := hw.up 11
   replace hw := hw.up 11
   replace hw := hw.up 11
   replace hw := hw.up 11
   replace hw := hw.up 11
   replace hw := hw.up 11
   exact hJ2 false _ _ hs.kx hw H
  ·replace H := ite_t H (of_decide_eq_true hb80)
   rw [hb80] at hs
   refine go_pvs 8 [62] [(65, .bool (decide (v77 < 8)))] hs ?_; clear hs; intro a hs
   refine go_end ?_
   replace hw := hw.up 11
   replace hw := hw.up 11
   replace hw := hw.up 11
   replace hw := hw.up 11
   replace hw := hw.up 11
   replace hw := hw.up 11
   replace hw := hw.up 11
   replace hw := hw.up 11
   replace hw := hw.up 11
   replace hw := hw.up 11
   replace hw := hw.up 11
   replace hw := hw.up 11
   exact hJ2 (decide (v77 < 8)) _ _ hs.kx hw H
 clear H
 refine go_loop (σ := (List Int) × Int) (fun σ a w => Slots a 134 [(2, .slice A2 l2.length c2), (6, .pointer (some (⟨g2, 0, none⟩ : Addr))), (7, .pointer (some (⟨g27, 0, none⟩ : Addr))), (8, .int .i64 y39), (9, .int .i64 σ.2)] ∧ St [] w0 w [box g27 32 [.slice Aa22 σ.1.length cc23, .slice Aa44 t42.length cc45, .slice none ([] : List Sapi_Sym).length 0], own 3 (eI .i64) Aa44 cc45 t42, own 72 eSapi_Sym none 0 ([] : List Sapi_Sym), own 3 (eI .i64) none 0 ([] : List Int), own 72 eSapi_Sym none 0 ([] : List Sapi_Sym), own 3 (eI .i64) none 0 ([] : List Int), own 38 (eI .u32) none 0 ([] : List Int), own 38 (eI .u32) Aa22 cc23 σ.1, own 72 eSapi_Sym none 0 ([] : List Sapi_Sym), own 3 (eI .i64) none 0 ([] : List Int), own 38 (eI .u32) none 0 ([] : List Int), box g2 32 [.slice none ([] : List Int).length 0, .slice none ([] : List Int).length 0, .slice none ([] : List Sapi_Sym).length 0]]) hl53 (by exact ⟨hs.kx, hw⟩) ?_
 rintro ⟨l54, v55⟩ a w ⟨hs, hw⟩ o H hr53
 replace hs : Slots a 134 [(2, .slice A2 l2.length c2), (6, .pointer (some (⟨g2, 0, none⟩ : Addr))), (7, .pointer (some (⟨g27, 0, none⟩ : Addr))), (8, .int .i64 y39), (9, .int .i64 v55)] := hs
 replace hw : St [] w0 w [box g27 32 [.slice Aa22 l54.length cc23, .slice Aa44 t42.length cc45, .slice none ([] : List Sapi_Sym).length 0], own 3 (eI .i64) Aa44 cc45 t42, own 72 eSapi_Sym none 0 ([] : List Sapi_Sym), own 3 (eI .i64) none 0 ([] : List Int), own 72 eSapi_Sym none 0 ([] : List Sapi_Sym), own 3 (eI .i64) none 0 ([] : List Int), own 38 (eI .u32) none 0 ([] : List Int), own 38 (eI .u32) Aa22 cc23 l54, own 72 eSapi_Sym none 0 ([] : List Sapi_Sym), own 3 (eI .i64) none 0 ([] : List Int), own 38 (eI .u32) none 0 ([] : List Int), box g2 32 [.slice none ([] : List Int).length 0, .slice none ([] : List Int).length 0, .slice none ([] : List Sapi_Sym).length 0]] := hw
 replace H : rivetref09_Fit.b53 t42 y39 l54 v55 = some o := H
 unfold rivetref09_Fit.b53 at H
 refine go_seq_k fun K56 hK56 => ?_
 refine go_sk fun K57 hK57 => ?_
 refine go_pvs 2 [] [(29, .int .i64 v55), (30, .pointer (some (⟨g27, 1, none⟩ : Addr)))] hs ?_; clear hs; intro a hs
 refine go_run hs (by rfl) (x_bld (g := g27) (o := 1) (p := (⟨g27, 1, none⟩ : Addr)) (v := .slice Aa44 t42.length cc45) (hw.up 0)) [30] ?_; clear hs; intro a hs
 refine go_pvs 5 [29, 31] [(33, .bool (decide (v55 < (t42.length : Int))))] hs ?_; clear hs; intro a hs
 refine go_end (hK57 _ _ ?_)
 refine go_cond hs (decide (v55 < (t42.length : Int))) (fun hc => ?_) fun hc => ?_
 ·replace H := ite_t H (of_decide_eq_true hc)
  have hb58 := hc
  rw [hb58] at hs
  refine wp_skip ?_
  refine hK56 _ _ ?_
  refine go_seq_k fun K59 hK59 => ?_
  refine wp_block ?_
  refine d_region [22] [(true, [0, 1, 2, 3, 4, 5, 6, 7, 8, 9, 10, 11, 12, 13, 14, 15, 16, 17, 18, 19, 20, 21], 22)] [] (by kernel_rfl) (by kernel_rfl) (fun c a d v w h => by cases d <;> exact h) ?_
  refine d_seg ?_
  refine c_pvs [0] [1, 2, 3, 4, 5, 6, 7, 8, 9, 10, 11, 12, 13, 14, 15, 16, 17, 18, 19, 20, 21] [33] [(36, .pointer (some (⟨g27, 0, none⟩ : Addr)))] hs ?_; clear hs; intro a hs
  refine d_run hs (by rfl) (fun wx hbx => (x_bldD (g := g27) (o := 0) (p := (⟨g27, 0, none⟩ : Addr)) (v := .slice Aa22 l54.length cc23) (hw.up 0) hbx)) [36] ?_; clear hs; intro a hs
  refine c_pvs [2] [3, 4, 5, 6, 7, 8, 9, 10, 11, 12, 13, 14, 15, 16, 17, 18, 19, 20, 21] [] [(38, .pointer (some (⟨g27, 1, none⟩ : Addr)))] hs ?_; clear hs; intro a hs
  refine d_run hs (by rfl) (fun wx hbx => (x_bldD (g := g27) (o := 1) (p := (⟨g27, 1, none⟩ : Addr)) (v := .slice Aa44 t42.length cc45) (hw.up 0) hbx)) [38] ?_; clear hs; intro a hs
  refine c_pvs [4] [5, 6, 7, 8, 9, 10, 11, 12, 13, 14, 15, 16, 17, 18, 19, 20, 21] [] [(40, .int .i64 v55)] hs ?_; clear hs; intro a hs
  obtain ⟨hp60, H⟩ := ite_only H
  obtain ⟨ad61, rfl⟩ := (Rd.of_own (hw.up 1)).some hp60.1 hp60.2
  refine d_run hs (by rfl) (fun wx hbx => (x_idx (T := 3) (sz := 1) (a := ad61) (n := t42.length) (cap := cc45) (k := .i64) (i := v55) hp60)) [39, 40] ?_; clear hs; intro a hs
  refine d_run hs (by rfl) (fun wx hbx => (x_ld (off := 0) (p := ad61.add (v55.toNat * 1)) (v := .int .i64 (ix (eI .i64).d t42 v55)) (Rd.bn (Rd.of_own (hw.up 1)) hbx) hp60 rfl)) [41] ?_; clear hs; intro a hs
  refine c_pvs [7] [8, 9, 10, 11, 12, 13, 14, 15, 16, 17, 18, 19, 20, 21] [] [(43, .pointer (some (⟨g27, 0, none⟩ : Addr)))] hs ?_; clear hs; intro a hs
  refine d_run hs (by rfl) (fun wx hbx => (x_bldD (g := g27) (o := 0) (p := (⟨g27, 0, none⟩ : Addr)) (v := .slice Aa22 l54.length cc23) (hw.up 0) hbx)) [43] ?_; clear hs; intro a hs
  refine c_pvs [9] [10, 11, 12, 13, 14, 15, 16, 17, 18, 19, 20, 21] [] [(45, .pointer (some (⟨g27, 1, none⟩ : Addr)))] hs ?_; clear hs; intro a hs
  refine d_run hs (by rfl) (fun wx hbx => (x_bldD (g := g27) (o := 1) (p := (⟨g27, 1, none⟩ : Addr)) (v := .slice (some ad61) t42.length cc45) (hw.up 0) hbx)) [45] ?_; clear hs; intro a hs
  refine c_pvs [11] [12, 13, 14, 15, 16, 17, 18, 19, 20, 21] [] [(47, .int .i64 v55)] hs ?_; clear hs; intro a hs
  obtain ⟨hp62, H⟩ := ite_only H
  refine d_run hs (by rfl) (fun wx hbx => (x_idx (T := 3) (sz := 1) (a := ad61) (n := t42.length) (cap := cc45) (k := .i64) (i := v55) hp62)) [46, 47] ?_; clear hs; intro a hs
  refine d_run hs (by rfl) (fun wx hbx => (x_ld (off := 0) (p := ad61.add (v55.toNat * 1)) (v := .int .i64 (ix (eI .i64).d t42 v55)) (Rd.bn (Rd.of_own (hw.up 1)) hbx) hp62 rfl)) [48] ?_; clear hs; intro a hs
  obtain ⟨hp63, H⟩ := ite_only H
  obtain ⟨ad64, rfl⟩ := (Rd.of_own (hw.up 7)).some hp63.1 hp63.2
  refine d_run hs (by rfl) (fun wx hbx => (x_idx (T := 38) (sz := 1) (a := ad64) (n := l54.length) (cap := cc23) (k := .i64) (i := (ix (eI .i64).d t42 v55)) hp63)) [44, 49] ?_; clear hs; intro a hs
  refine d_run hs (by rfl) (fun wx hbx => (x_ld (off := 0) (p := ad64.add ((ix (eI .i64).d t42 v55).toNat * 1)) (v := .int .u32 (ix (eI .u32).d l54 (ix (eI .i64).d t42 v55))) (Rd.bn (Rd.of_own (hw.up 7)) hbx) hp63 rfl)) [50] ?_; clear hs; intro a hs
  refine c_pvs [16, 17, 18, 19] [20, 21] [] [(55, .int .u32 (wu32 (w64 ((w64 (4 * y39)) + 1))))] hs ?_; clear hs; intro a hs
  obtain ⟨hp65, H⟩ := ite_only H
  refine d_run hs (by rfl) (fun wx hbx => (x_rem (k := .u32) (m := (ix (eI .u32).d l54 (ix (eI .i64).d t42 v55))) (n := wu32 (w64 ((w64 (4 * y39)) + 1))) (by kernel_rfl) (by kernel_rfl) hp65)) [51, 55] ?_; clear hs; intro a hs
  obtain ⟨hp66, H⟩ := ite_only H
  refine d_run hs (by rfl) (fun wx hbx => (x_idx (T := 38) (sz := 1) (a := ad64) (n := l54.length) (cap := cc23) (k := .i64) (i := (ix (eI .i64).d t42 v55)) hp66)) [37, 42] ?_; clear hs; intro a hs
  refine c_end ?_
  intro wq hbq
  replace hw := hw.behind hbq
  replace hw := hw.up 7
  obtain ⟨wd67, hx68, hw⟩ := x_put (P := Tryd.prog) (ty := 0) (t := 38) (x := (Operand.tmp 57)) (y := (Operand.tmp 56)) (off := 0) (p := ad64.add ((ix (eI .i64).d t42 v55).toNat * 1)) (v := .int .u32 ((ix (eI .u32).d l54 (ix (eI .i64).d t42 v55)).tmod (wu32 (w64 ((w64 (4 * y39)) + 1))))) (vs := [.int .u32 ((ix (eI .u32).d l54 (ix (eI .i64).d t42 v55)).tmod (wu32 (w64 ((w64 (4 * y39)) + 1))))]) (i := (ix (eI .i64).d t42 v55)) (e' := ((ix (eI .u32).d l54 (ix (eI .i64).d t42 v55)).tmod (wu32 (w64 ((w64 (4 * y39)) + 1))) : Int)) hs hw rfl hp66.1 hp66.2 (by kernel_rfl) rfl (by kernel_rfl) rfl (by kernel_rfl) (Nat.le_of_ble_eq_true rfl) (by simp [Value.oneCell']) (by kernel_rfl)
  refine p_unit hs (by rfl) hx68 [56, 57] ?_; clear hs; intro a hs
  replace hw : St [] w0 wd67 [own 38 (eI .u32) (some ad64) cc23 (l54.set ((ix (eI .i64).d t42 v55) : Int).toNat ((ix (eI .u32).d l54 (ix (eI .i64).d t42 v55)).tmod (wu32 (w64 ((w64 (4 * y39)) + 1))))), box g27 32 [.slice (some ad64) (l54.set ((ix (eI .i64).d t42 v55) : Int).toNat ((ix (eI .u32).d l54 (ix (eI .i64).d t42 v55)).tmod (wu32 (w64 ((w64 (4 * y39)) + 1))))).length cc23, .slice (some ad61) t42.length cc45, .slice none ([] : List Sapi_Sym).length 0], own 3 (eI .i64) (some ad61) cc45 t42, own 72 eSapi_Sym none 0 ([] : List Sapi_Sym), own 3 (eI .i64) none 0 ([] : List Int), own 72 eSapi_Sym none 0 ([] : List Sapi_Sym), own 3 (eI .i64) none 0 ([] : List Int), own 38 (eI .u32) none 0 ([] : List Int), own 72 eSapi_Sym none 0 ([] : List Sapi_Sym), own 3 (eI .i64) none 0 ([] : List Int), own 38 (eI .u32) none 0 ([] : List Int), box g2 32 [.slice none ([] : List Int).length 0, .slice none ([] : List Int).length 0, .slice none ([] : List Sapi_Sym).length 0]] := by rw [show (l54.set ((ix (eI .i64).d t42 v55) : Int).toNat ((ix (eI .u32).d l54 (ix (eI .i64).d t42 v55)).tmod (wu32 (w64 ((w64 (4 * y39)) + 1))))).length = (l54).length from List.length_set]; exact hw
  refine c_done ⟨.inl (by kernel_rfl), ?_⟩
  clear hbq
  refine d_last ?_
  refine c_end ?_
  intro wq hbq
  replace hw := hw.behind hbq
  refine ib_norm ?_
  refine hK59 _ _ ?_
  refine go_plain [] [(9, .int .i64 (w64 (v55 + 1)))] hs ?_; clear hs; intro a hs
  replace hw := hw.up 11
  replace hw := hw.up 11
  replace hw := hw.up 11
  replace hw := hw.up 11
  replace hw := hw.up 4
  replace hw := hw.up 11
  replace hw := hw.up 11
  replace hw := hw.up 11
  replace hw := hw.up 11
  replace hw := hw.up 11
  replace hw := hw.up 11
  replace hw := hw.up 11
  exact round_end (l54.set ((ix (eI .i64).d t42 v55) : Int).toNat ((ix (eI .u32).d l54 (ix (eI .i64).d t42 v55)).tmod (wu32 (w64 ((w64 (4 * y39)) + 1)))), w64 (v55 + 1)) (Option.some.inj H).symm ⟨hs.kx, hw⟩
 ·replace H := ite_f H (of_decide_eq_false hc)
  have hb69 := hc
  rw [hb69] at hs
  refine wp_exit ?_
  refine th_exit ?_
  refine th_exit ?_
  refine in_block ?_
  replace hw := hw.up 11
  replace hw := hw.up 11
  replace hw := hw.up 11
  replace hw := hw.up 11
  replace hw := hw.up 11
  replace hw := hw.up 11
  replace hw := hw.up 11
  replace hw := hw.up 11
  replace hw := hw.up 11
  replace hw := hw.up 11
  replace hw := hw.up 11
  replace hw := hw.up 11
  rw [← hr53 _ (Option.some.inj H).symm] at HX53
  exact hJ1 l54 _ _ hs.kx hw HX53

/-! rivet/memory.New: function 35 -/
noncomputable def memory_New.j2 (a0 : Int) : Option ((Option Smemory_Memory) × Int) := some ((some (⟨(Vector.replicate 4096 0), a0⟩ : Smemory_Memory)), 0)
noncomputable def memory_New.j1 (a0 : Int) (v5 : Bool) : Option ((Option Smemory_Memory) × Int) := (if v5 = true then some ((none : Option Smemory_Memory), 2) else memory_New.j2 a0)
noncomputable def memory_New (a0 : Int) : Option ((Option Smemory_Memory) × Int) := (if a0 < 0 then memory_New.j1 a0 true else memory_New.j1 a0 (decide (a0 > 4096)))
set_option maxRecDepth 100000 in
set_option maxHeartbeats 4000000 in
theorem memory_New.calls (a0 : Int) (r : (Option Smemory_Memory) × Int) (w0 : World) (H : memory_New a0 = some r) :
    Calls Tryd.prog 35 #[.int .i64 a0] w0 fun e w' => ∃ A_0, e = .returned (.tuple #[.pointer A_0, .int .i64 r.2]) ∧ St [] w0 w' [oM mSmemory_Memory A_0 r.1] := by
 have hw : St [] w0 w0 [] := St.nil w0
 unfold memory_New at H
 refine go_fn Tryd.func35 rfl Tryd.ntmps35 ?_; intro a hs
 refine go_sp [] [] hs ?_; clear hs; intro a hs
 refine go_seq_k fun K2 hK2 => ?_
 have hJ2 : ∀ (a : Act) (w : World), Slots a 13 [(0, .int .i64 a0)] → St [] w0 w [] → memory_New.j2 a0 = some r → K2 a w := by
  intro a w hs hw H
  unfold memory_New.j2 at H
  refine hK2 _ _ ?_
  refine go_sk fun K10 hK10 => ?_
  refine go_pvs 2 [0] [(11, .agg (eSmemory_Memory.enc (⟨(Vector.replicate 4096 0), a0⟩ : Smemory_Memory)).toArray)] hs ?_; clear hs; intro a hs
  obtain ⟨ad11, wd12, hx13, hw⟩ := x_box1 (P := Tryd.prog) (elem := 78) (v := (Operand.tmp 11)) (ty := 53) hs hw eSmemory_Memory (⟨(Vector.replicate 4096 0), a0⟩ : Smemory_Memory) (by kernel_rfl)
  refine go_run hs (by rfl) hx13 [11] ?_; clear hs; intro a hs
  refine go_pvs 5 [12] [(2, .pointer (some ad11)), (3, .int .i64 0)] hs ?_; clear hs; intro a hs
  refine go_end (hK10 _ _ ?_)
  refine wp_ret ?_
  obtain rfl := Option.some.inj H
  refine ret2 (t1 := 2) (v1 := .pointer (some ad11)) (t2 := 3) (v2 := .int .i64 0) hs (by kernel_rfl) (by kernel_rfl) (by kernel_rfl) ?_
  exact ⟨(some ad11), rfl, hw.only 1⟩
 refine go_seq_k fun K3 hK3 => ?_
 have hJ1 : ∀ (v5 : Bool) (a : Act) (w : World), Slots a 13 [(0, .int .i64 a0), (9, .bool v5)] → St [] w0 w [] → memory_New.j1 a0 v5 = some r → K3 a w := by
  intro v5 a w hs hw H
  unfold memory_New.j1 at H
  refine hK3 _ _ ?_
  refine go_cond hs v5 (fun hc => ?_) fun hc => ?_
  ·replace H := ite_t H hc
   have hb6 := hc
   rw [hb6] at hs
   refine go_sp [0, 9] [(2, .pointer none), (3, .int .i64 2)] hs ?_; clear hs; intro a hs
   refine wp_ret ?_
   refine th_ret ?_
   obtain rfl := Option.some.inj H
   replace hw := St.oM_nil mSmemory_Memory hw
   refine ret2 (t1 := 2) (v1 := .pointer none) (t2 := 3) (v2 := .int .i64 2) hs (by kernel_rfl) (by kernel_rfl) (by kernel_rfl) ?_
   exact ⟨none, rfl, hw.only 1⟩
  ·replace H := ite_f H (ff hc)
   have hb9 := hc
   rw [hb9] at hs
   refine wp_skip ?_
   exact hJ2 _ _ hs.kx hw H
 refine go_region ?_
 refine go_pvs 3 [] [(6, .bool (decide (a0 < 0)))] hs ?_; clear hs; intro a hs
 cases hb4 : (decide (a0 < 0))
 ·replace H := ite_f H (of_decide_eq_false hb4)
  rw [hb4] at hs
  refine go_pvs 6 [6] [(9, .bool (decide (a0 > 4096)))] hs ?_; clear hs; intro a hs
  refine go_end ?_
  exact hJ1 (decide (a0 > 4096)) _ _ hs.kx hw H
 ·replace H := ite_t H (of_decide_eq_true hb4)
  rw [hb4] at hs
  refine go_pvs 6 [6] [(9, .bool true)] hs ?_; clear hs; intro a hs
  refine go_end ?_
  exact hJ1 true _ _ hs.kx hw H

/-! (*rivet/memory.Memory).Place: function 23 -/
noncomputable def memory_Memory_Place.j2 (a1 : Int) (x0 : Smemory_Memory) (l2 : List Int) : Option (Int × Smemory_Memory) := (if 0 ≤ a1 ∧ a1 ≤ x0.n ∧ x0.n ≤ ((4096 : Nat) : Int) then some (0, { x0 with w := vcopy x0.w a1.toNat (l2.take ((x0.w.toList.take x0.n.toNat).drop a1.toNat).length) }) else none)
noncomputable def memory_Memory_Place.j1 (x0 : Smemory_Memory) (a1 : Int) (l2 : List Int) (v7 : Bool) : Option (Int × Smemory_Memory) := (if v7 = true then some (11, x0) else memory_Memory_Place.j2 a1 x0 l2)
noncomputable def memory_Memory_Place (x0 : Smemory_Memory) (a1 : Int) (l2 : List Int) : Option (Int × Smemory_Memory) := (if a1 < 0 then memory_Memory_Place.j1 x0 a1 l2 true else (if a1 > x0.n then memory_Memory_Place.j1 x0 a1 l2 true else memory_Memory_Place.j1 x0 a1 l2 (decide ((l2.length : Int) > (w64 (x0.n - a1))))))
set_option maxRecDepth 100000 in
set_option maxHeartbeats 4000000 in
theorem memory_Memory_Place.calls (ks0 : List Nat) (A0 : Option Addr) (x0 : Smemory_Memory) (a1 : Int) (A2 : Option Addr) (c2 : Nat) (l2 : List Int) (r : Int × Smemory_Memory) (w0 : World) (hw : St ks0 w0 w0 [mSmemory_Memory A0 x0]) (hr2 : ∀ w', Kp ks0 w0 w' → Rd w' (eI .u32) A2 c2 l2) (H : memory_Memory_Place x0 a1 l2 = some r) :
    Calls Tryd.prog 23 #[.pointer A0, .int .i64 a1, .slice A2 l2.length c2] w0 fun e w' => e = .returned (.int .i64 r.1) ∧ St ks0 w0 w' [mSmemory_Memory A0 r.2] := by
 unfold memory_Memory_Place at H
 refine go_fn Tryd.func23 rfl Tryd.ntmps23 ?_; intro a hs
 obtain ⟨g1, hAg, hwg⟩ := St.one hw
 clear hw; subst hAg; have hw := hwg; clear hwg
 refine go_sp [] [(0, .pointer (some (⟨g1, 0, none⟩ : Addr)))] hs ?_; clear hs; intro a hs
 refine go_seq_k fun K3 hK3 => ?_
 have hJ2 : ∀ (a : Act) (w : World), Slots a 39 [(0, .pointer (some (⟨g1, 0, none⟩ : Addr))), (1, .int .i64 a1), (2, .slice A2 l2.length c2)] → St ks0 w0 w [own 78 eSmemory_Memory (some (⟨g1, 0, none⟩ : Addr)) 1 [x0]] → memory_Memory_Place.j2 a1 x0 l2 = some r → K3 a w := by
  intro a w hs hw H
  unfold memory_Memory_Place.j2 at H
  refine hK3 _ _ ?_
  refine go_seq_k fun K11 hK11 => ?_
  refine d_region [10] [(true, [0, 1, 2, 3, 4, 5, 6, 7, 8, 9], 10)] [] (by kernel_rfl) (by kernel_rfl) (fun c a d v w h => by cases d <;> exact h) ?_
  refine d_seg ?_
  refine c_pvs [0, 1, 2, 3, 4, 5, 6] [7, 8, 9] [0, 1] [(30, .pointer (some (((⟨g1, 0, none⟩ : Addr) : Addr).add 0))), (31, .int .i64 a1), (34, .pointer (some (((⟨g1, 0, none⟩ : Addr) : Addr).add 4096)))] hs ?_; clear hs; intro a hs
  refine d_run hs (by rfl) (fun wx hbx => (x_ld (off := 4096) (p := ((⟨g1, 0, none⟩ : Addr) : Addr).add 4096) (v := .int .i64 x0.n) (Rd.bn (Rd.of_own (hw.up 0)) hbx) (one_ok x0) (one_off _ _ _) (hv := ((vafter (cs := eSmemory_Memory.enc x0) (pre := []) (post := [.int .i64 x0.n]) (f := (fun j : Nat => .int .u32 (vx 0 x0.w j))) (n := 4096) (o := 4096) (j := 0) (by rw [List.nil_append, ← vec_range 0 x0.w (Value.int .u32)]; rfl) rfl).trans (by kernel_rfl))))) [34] ?_; clear hs; intro a hs
  obtain ⟨hp12, H⟩ := ite_only H
  replace hs : Slots a 39 [(2, .slice A2 l2.length c2), (30, .pointer (some (((⟨g1, 0, none⟩ : Addr) : Addr).add 0))), (31, .int .i64 a1), (35, .int .i64 x0.n)] := hs.kx
  obtain ⟨Aa13, cc14, hx15, hc16, hA17, hF18⟩ := x_vcut (P := Tryd.prog) (ty := 22) (E := eSmemory_Memory) (t := 76) (e := 38) (y := (Operand.tmp 30)) (p := ((⟨g1, 0, none⟩ : Addr) : Addr).add 0) (n := 4096) (o := 0) (k := .u32) (l := a1) (h := x0.n) (lo := (some (Operand.tmp 31))) (hi := (some (Operand.tmp 35))) (x := x0) (v := x0.w) (pre := []) (post := [.int .i64 x0.n]) hs (by kernel_rfl) (by kernel_rfl) (by kernel_rfl) (one_off _ _ _) (.inl ⟨_, _, rfl, (by exact (show evD [(2, .slice A2 l2.length c2), (30, .pointer (some (((⟨g1, 0, none⟩ : Addr) : Addr).add 0))), (31, .int .i64 a1), (35, .int .i64 x0.n)] (Operand.tmp 31) = .int .i64 a1 by kernel_rfl))⟩) (.inl ⟨_, _, rfl, (by exact (show evD [(2, .slice A2 l2.length c2), (30, .pointer (some (((⟨g1, 0, none⟩ : Addr) : Addr).add 0))), (31, .int .i64 a1), (35, .int .i64 x0.n)] (Operand.tmp 35) = .int .i64 x0.n by kernel_rfl))⟩) hp12.1 hp12.2.1 hp12.2.2 rfl rfl
  refine d_run hs (by rfl) (fun wx hbx => (hx15 wx)) [30, 31, 35] ?_; clear hs; intro a hs
  refine c_pvs [9] [] [2] [(37, .slice A2 l2.length c2)] hs ?_; clear hs; intro a hs
  refine c_end ?_
  intro wq hbq
  replace hw := hw.behind hbq
  have hsrc20 : Rd _ (eI .u32) A2 c2 l2 := (hr2 _ hw.kp)
  obtain ⟨wd21, hx22, hw⟩ := x_copyv0 (P := Tryd.prog) (dT := 22) (sT := 22) (e := 38) (y := (Operand.tmp 36)) (z := (Operand.tmp 37)) (ty := 3) (x' := ({ x0 with w := vcopy x0.w a1.toNat (l2.take ((x0.w.toList.take x0.n.toNat).drop a1.toNat).length) } : Smemory_Memory)) (v := x0.w) (post := [.int .i64 x0.n]) (A' := Aa13) (len := ((x0.w.toList.take x0.n.toNat).drop a1.toNat).length) (dcap := cc14) hs hw (by kernel_rfl) (by kernel_rfl) (by kernel_rfl) hA17 hF18 (by kernel_rfl) hsrc20 (eSmemory_Memory_is _) (eSmemory_Memory_is _)
  refine p_run hs (by rfl) hx22 [36, 37, 38] ?_; clear hs; intro a hs
  refine c_done ⟨.inl (by kernel_rfl), ?_⟩
  clear hbq
  refine d_last ?_
  refine c_end ?_
  intro wq hbq
  replace hw := hw.behind hbq
  refine hK11 _ _ ?_
  refine go_sp [] [(6, .int .i64 0)] hs ?_; clear hs; intro a hs
  refine wp_ret ?_
  obtain rfl := Option.some.inj H
  refine ret1 (t := 6) (v := .int .i64 0) hs (by kernel_rfl) (by kernel_rfl) ?_
  exact ⟨rfl, hw.only 1⟩
 refine go_seq_k fun K4 hK4 => ?_
 have hJ1 : ∀ (v7 : Bool) (a : Act) (w : World), Slots a 39 [(0, .pointer (some (⟨g1, 0, none⟩ : Addr))), (1, .int .i64 a1), (2, .slice A2 l2.length c2), (27, .bool v7)] → St ks0 w0 w [own 78 eSmemory_Memory (some (⟨g1, 0, none⟩ : Addr)) 1 [x0]] → memory_Memory_Place.j1 x0 a1 l2 v7 = some r → K4 a w := by
  intro v7 a w hs hw H
  unfold memory_Memory_Place.j1 at H
  refine hK4 _ _ ?_
  refine go_cond hs v7 (fun hc => ?_) fun hc => ?_
  ·replace H := ite_t H hc
   have hb8 := hc
   rw [hb8] at hs
   refine go_sp [0, 1, 2, 27] [(6, .int .i64 11)] hs ?_; clear hs; intro a hs
   refine wp_ret ?_
   refine th_ret ?_
   obtain rfl := Option.some.inj H
   refine ret1 (t := 6) (v := .int .i64 11) hs (by kernel_rfl) (by kernel_rfl) ?_
   exact ⟨rfl, hw.only 1⟩
  ·replace H := ite_f H (ff hc)
   have hb10 := hc
   rw [hb10] at hs
   refine wp_skip ?_
   exact hJ2 _ _ hs.kx hw H
 refine go_region ?_
 refine go_pvs 3 [] [(9, .bool (decide (a1 < 0)))] hs ?_; clear hs; intro a hs
 cases hb5 : (decide (a1 < 0))
 ·replace H := ite_f H (of_decide_eq_false hb5)
  rw [hb5] at hs
  refine go_pvs 7 [] [(10, .int .i64 a1), (13, .pointer (some (((⟨g1, 0, none⟩ : Addr) : Addr).add 4096)))] hs ?_; clear hs; intro a hs
  refine go_run hs (by rfl) (x_ld (off := 4096) (p := ((⟨g1, 0, none⟩ : Addr) : Addr).add 4096) (v := .int .i64 x0.n) (Rd.of_own (hw.up 0)) (one_ok x0) (one_off _ _ _) (hv := ((vafter (cs := eSmemory_Memory.enc x0) (pre := []) (post := [.int .i64 x0.n]) (f := (fun j : Nat => .int .u32 (vx 0 x0.w j))) (n := 4096) (o := 4096) (j := 0) (by rw [List.nil_append, ← vec_range 0 x0.w (Value.int .u32)]; rfl) rfl).trans (by kernel_rfl)))) [13] ?_; clear hs; intro a hs
  refine go_pvs 11 [9, 10, 14] [(17, .bool (decide (a1 > x0.n)))] hs ?_; clear hs; intro a hs
  cases hb6 : (decide (a1 > x0.n))
  ·replace H := ite_f H (of_decide_eq_false hb6)
   rw [hb6] at hs
   refine go_pvs 16 [] [(19, .int .i64 (l2.length : Int)), (22, .pointer (some (((⟨g1, 0, none⟩ : Addr) : Addr).add 4096)))] hs ?_; clear hs; intro a hs
   refine go_run hs (by rfl) (x_ld (off := 4096) (p := ((⟨g1, 0, none⟩ : Addr) : Addr).add 4096) (v := .int .i64 x0.n) (Rd.of_own (hw.up 0)) (one_ok x0) (one_off _ _ _) (hv := ((vafter (cs := eSmemory_Memory.enc x0) (pre := []) (post := [.int .i64 x0.n]) (f := (fun j : Nat => .int .u32 (vx 0 x0.w j))) (n := 4096) (o := 4096) (j := 0) (by rw [List.nil_append, ← vec_range 0 x0.w (Value.int .u32)]; rfl) rfl).trans (by kernel_rfl)))) [22] ?_; clear hs; intro a hs
   refine go_pvs 21 [17, 19, 23] [(27, .bool (decide ((l2.length : Int) > (w64 (x0.n - a1)))))] hs ?_; clear hs; intro a hs
   refine go_end ?_
   exact hJ1 (decide ((l2.length : Int) > (w64 (x0.n - a1)))) _ _ hs.kx hw H
  ·replace H := ite_t H (of_decide_eq_true hb6)
   rw [hb6] at hs
   refine go_pvs 21 [17] [(27, .bool true)] hs ?_; clear hs; intro a hs
   refine go_end ?_
   exact hJ1 true _ _ hs.kx hw H
 ·replace H := ite_t H (of_decide_eq_true hb5)
  rw [hb5] at hs
  refine go_pvs 21 [9] [(27, .bool true)] hs ?_; clear hs; intro a hs
  refine go_end ?_
  exact hJ1 true _ _ hs.kx hw H

/-! (*rivet/memory.Memory).Words: function 17 -/
noncomputable def memory_Memory_Words (x0 : Smemory_Memory) : Option (List Int) := (if 0 ≤ (0 : Int) ∧ (0 : Int) ≤ x0.n ∧ x0.n ≤ ((4096 : Nat) : Int) then ((slices_Clone_uint32_uint32 ((x0.w.toList.take x0.n.toNat).drop (0 : Int).toNat)).bind fun t14 => (some t14)) else none)
set_option maxRecDepth 100000 in
set_option maxHeartbeats 4000000 in
theorem memory_Memory_Words.calls (A0 : Option Addr) (x0 : Smemory_Memory) (r : (List Int)) (w0 : World) (hr0 : rSmemory_Memory w0 A0 x0) (H : memory_Memory_Words x0 = some r) :
    Calls Tryd.prog 17 #[.pointer A0] w0 fun e w' => ∃ A_0 c_0, e = .returned (.slice A_0 r.length c_0) ∧ St [] w0 w' [own 38 (eI .u32) A_0 c_0 r] := by
 have hw : St [] w0 w0 [] := St.nil w0
 unfold memory_Memory_Words at H
 refine go_fn Tryd.func17 rfl Tryd.ntmps17 ?_; intro a hs
 obtain ⟨ad1, hAg⟩ := Rd.one hr0; subst hAg
 have hr2 : Rd w0 eSmemory_Memory (some ad1) 1 [x0] := hr0
 refine go_sp [] [(0, .pointer (some ad1))] hs ?_; clear hs; intro a hs
 refine go_seq_k fun K4 hK4 => ?_
 refine c_region [(true, [0, 1, 2, 3, 4, 5, 6, 7], 8)] [9] (by kernel_rfl) (by kernel_rfl) (fun c a d v w h => by cases d <;> exact h) ?_
 refine c_seg ?_
 refine c_pvs [0, 1, 2, 3, 4, 5] [6, 7] [0] [(5, .pointer (some ((ad1 : Addr).add 0))), (8, .pointer (some ((ad1 : Addr).add 4096)))] hs ?_; clear hs; intro a hs
 refine c_run hs (by rfl) (fun wx hbx => (x_ld (off := 4096) (p := (ad1 : Addr).add 4096) (v := .int .i64 x0.n) ((hr2.old hw).below hbx) (one_ok x0) (one_off _ _ _) (hv := ((vafter (cs := eSmemory_Memory.enc x0) (pre := []) (post := [.int .i64 x0.n]) (f := (fun j : Nat => .int .u32 (vx 0 x0.w j))) (n := 4096) (o := 4096) (j := 0) (by rw [List.nil_append, ← vec_range 0 x0.w (Value.int .u32)]; rfl) rfl).trans (by kernel_rfl))))) [8] ?_; clear hs; intro a hs
 obtain ⟨hp5, H⟩ := ite_only H
 replace hs : Slots a 12 [(5, .pointer (some ((ad1 : Addr).add 0))), (9, .int .i64 x0.n)] := hs.kx
 obtain ⟨Aa6, cc7, hx8, hc9, hA10, hF11⟩ := x_vcut (P := Tryd.prog) (ty := 22) (E := eSmemory_Memory) (t := 76) (e := 38) (y := (Operand.tmp 5)) (p := (ad1 : Addr).add 0) (n := 4096) (o := 0) (k := .u32) (l := (0 : Int)) (h := x0.n) (lo := none) (hi := (some (Operand.tmp 9))) (x := x0) (v := x0.w) (pre := []) (post := [.int .i64 x0.n]) hs (by kernel_rfl) (by kernel_rfl) (by kernel_rfl) (one_off _ _ _) (.inr ⟨rfl, rfl⟩) (.inl ⟨_, _, rfl, (by exact (show evD [(5, .pointer (some ((ad1 : Addr).add 0))), (9, .int .i64 x0.n)] (Operand.tmp 9) = .int .i64 x0.n by kernel_rfl))⟩) hp5.1 hp5.2.1 hp5.2.2 rfl rfl
 refine c_run hs (by rfl) (fun wx hbx => (hx8 wx)) [5, 9] ?_; clear hs; intro a hs
 refine c_end ?_
 intro wq hbq
 replace hw := hw.behind hbq
 have hbc := Below.refl wq.heap.size wq
 obtain ⟨t14, hx15, H⟩ := bind_some H
 refine p_call hs (by rfl) (slices_Clone_uint32_uint32.calls Aa6 cc7 ((x0.w.toList.take x0.n.toNat).drop (0 : Int).toNat) t14 _ (hc9 _ (hr2.old hw)) hx15) ?_
 rintro e wd18 ⟨Aa16, cc17, rfl, hw19⟩
 refine ⟨_, rfl, ?_⟩
 replace hbc := hw19.below
 replace hw := hw.call hw19
 clear hs; intro a hs; replace hs := hs.rms [10]
 refine c_done ⟨bl_of hbq hbc, ?_⟩
 clear hbc hbq
 refine c_last ?_
 refine c_pvs [9] [] [11] [(2, .slice Aa16 t14.length cc17)] hs ?_; clear hs; intro a hs
 refine c_end ?_
 intro wq hbq
 replace hw := hw.behind hbq
 refine hK4 _ _ ?_
 refine wp_ret ?_
 obtain rfl := Option.some.inj H
 refine ret1 (t := 2) (v := .slice Aa16 t14.length cc17) hs (by kernel_rfl) (by kernel_rfl) ?_
 exact ⟨Aa16, cc17, rfl, hw.only 1⟩

/-! (*rivet/rivetref05.Memory).get: function 34 -/
noncomputable def rivetref05_Memory_get (x0 : Srivetref05_Memory) (a1 : Int) : Option Int := (if 0 ≤ (w64 (4 * a1)) ∧ (w64 (4 * a1)) ≤ (w64 ((w64 (4 * a1)) + 4)) ∧ (w64 ((w64 (4 * a1)) + 4)) ≤ (x0.B.length : Int) then (if 0 ≤ (0 : Int) ∧ (0 : Int) < (((x0.B.take (w64 ((w64 (4 * a1)) + 4) : Int).toNat).drop (w64 (4 * a1) : Int).toNat).length : Int) then (if 0 ≤ (1 : Int) ∧ (1 : Int) < (((x0.B.take (w64 ((w64 (4 * a1)) + 4) : Int).toNat).drop (w64 (4 * a1) : Int).toNat).length : Int) then (if 0 ≤ (2 : Int) ∧ (2 : Int) < (((x0.B.take (w64 ((w64 (4 * a1)) + 4) : Int).toNat).drop (w64 (4 * a1) : Int).toNat).length : Int) then (if 0 ≤ (3 : Int) ∧ (3 : Int) < (((x0.B.take (w64 ((w64 (4 * a1)) + 4) : Int).toNat).drop (w64 (4 * a1) : Int).toNat).length : Int) then some (wu32 ((wu32 ((wu32 ((wu32 (ix (eI .u8).d ((x0.B.take (w64 ((w64 (4 * a1)) + 4) : Int).toNat).drop (w64 (4 * a1) : Int).toNat) (0 : Int))) + (wu32 ((wu32 (ix (eI .u8).d ((x0.B.take (w64 ((w64 (4 * a1)) + 4) : Int).toNat).drop (w64 (4 * a1) : Int).toNat) (1 : Int))) * 256)))) + (wu32 ((wu32 (ix (eI .u8).d ((x0.B.take (w64 ((w64 (4 * a1)) + 4) : Int).toNat).drop (w64 (4 * a1) : Int).toNat) (2 : Int))) * 65536)))) + (wu32 ((wu32 (ix (eI .u8).d ((x0.B.take (w64 ((w64 (4 * a1)) + 4) : Int).toNat).drop (w64 (4 * a1) : Int).toNat) (3 : Int))) * 16777216)))) else none) else none) else none) else none) else none)
set_option maxRecDepth 100000 in
set_option maxHeartbeats 4000000 in
theorem rivetref05_Memory_get.calls (A0 : Option Addr) (x0 : Srivetref05_Memory) (a1 : Int) (r : Int) (w0 : World) (hr0 : rSrivetref05_Memory w0 A0 x0) (H : rivetref05_Memory_get x0 a1 = some r) :
    Calls Tryd.prog 34 #[.pointer A0, .int .i64 a1] w0 fun e w' => e = .returned (.int .u32 r) ∧ St [] w0 w' [] := by
 have hw : St [] w0 w0 [] := St.nil w0
 unfold rivetref05_Memory_get at H
 refine go_fn Tryd.func34 rfl Tryd.ntmps34 ?_; intro a hs
 have hk3 := hr0; obtain ⟨g1, Aa5, cc6, hA4, hrx2, hr7⟩ := hr0; subst hA4
 refine go_sp [] [(0, .pointer (some (⟨g1, 0, none⟩ : Addr)))] hs ?_; clear hs; intro a hs
 refine go_sk fun K10 hK10 => ?_
 refine go_pvs 3 [0] [(8, .pointer (some (⟨g1, 0, none⟩ : Addr)))] hs ?_; clear hs; intro a hs
 refine go_run hs (by rfl) (x_rld (g := g1) (o := 0) (p := (⟨g1, 0, none⟩ : Addr)) (v := .slice Aa5 x0.B.length cc6) (hrx2.old hw)) [8] ?_; clear hs; intro a hs
 refine go_pvs 9 [1] [(11, .int .i64 (w64 (4 * a1))), (14, .int .i64 (w64 ((w64 (4 * a1)) + 4)))] hs ?_; clear hs; intro a hs
 obtain ⟨hp11, H⟩ := ite_only H
 obtain ⟨Aa12, cc13, hx14, hc15⟩ := c_lohi (P := Tryd.prog) (ty := 23) (E := (eI .u8)) (T := 5) (t := 23) (x := (Operand.tmp 9)) (y := (Operand.tmp 11)) (k := .i64) (y' := (Operand.tmp 14)) (k' := .i64) hs (by kernel_rfl) (by kernel_rfl) (hr7.old hw) (by kernel_rfl) (by kernel_rfl) (by kernel_rfl) hp11.1 hp11.2.1 hp11.2.2
 refine go_run hs (by rfl) hx14 [9, 11, 14] ?_; clear hs; intro a hs
 refine go_pvs 11 [15] [(5, .slice Aa12 ((x0.B.take (w64 ((w64 (4 * a1)) + 4) : Int).toNat).drop (w64 (4 * a1) : Int).toNat).length cc13)] hs ?_; clear hs; intro a hs
 refine go_end (hK10 _ _ ?_)
 refine go_seq_k fun K17 hK17 => ?_
 refine q2_region (by kernel_rfl) (by kernel_rfl) ?_
 refine q_pvs 1 [] [(16, .slice Aa12 ((x0.B.take (w64 ((w64 (4 * a1)) + 4) : Int).toNat).drop (w64 (4 * a1) : Int).toNat).length cc13)] hs ?_; clear hs; intro a hs
 obtain ⟨hp18, H⟩ := ite_only H
 obtain ⟨ad19, rfl⟩ := (hc15 _ (hr7.old hw)).some hp18.1 hp18.2
 refine q_run hs (by rfl) (fun wx hbx => (x_idx (T := 5) (sz := 1) (a := ad19) (n := ((x0.B.take (w64 ((w64 (4 * a1)) + 4) : Int).toNat).drop (w64 (4 * a1) : Int).toNat).length) (cap := cc13) (k := .i64) (i := (0 : Int)) hp18)) [16] ?_; clear hs; intro a hs
 refine q_run hs (by rfl) (fun wx hbx => (x_ld (off := 0) (p := ad19.add (((0 : Int) : Int).toNat * 1)) (v := .int .u8 (ix (eI .u8).d ((x0.B.take (w64 ((w64 (4 * a1)) + 4) : Int).toNat).drop (w64 (4 * a1) : Int).toNat) (0 : Int))) ((hc15 _ (hr7.old hw)).below hbx) hp18 rfl)) [17] ?_; clear hs; intro a hs
 refine q_pvs 5 [18] [(19, .int .u32 (wu32 (ix (eI .u8).d ((x0.B.take (w64 ((w64 (4 * a1)) + 4) : Int).toNat).drop (w64 (4 * a1) : Int).toNat) (0 : Int)))), (20, .slice (some ad19) ((x0.B.take (w64 ((w64 (4 * a1)) + 4) : Int).toNat).drop (w64 (4 * a1) : Int).toNat).length cc13)] hs ?_; clear hs; intro a hs
 obtain ⟨hp20, H⟩ := ite_only H
 refine q_run hs (by rfl) (fun wx hbx => (x_idx (T := 5) (sz := 1) (a := ad19) (n := ((x0.B.take (w64 ((w64 (4 * a1)) + 4) : Int).toNat).drop (w64 (4 * a1) : Int).toNat).length) (cap := cc13) (k := .i64) (i := (1 : Int)) hp20)) [20] ?_; clear hs; intro a hs
 refine q_run hs (by rfl) (fun wx hbx => (x_ld (off := 0) (p := ad19.add (((1 : Int) : Int).toNat * 1)) (v := .int .u8 (ix (eI .u8).d ((x0.B.take (w64 ((w64 (4 * a1)) + 4) : Int).toNat).drop (w64 (4 * a1) : Int).toNat) (1 : Int))) ((hc15 _ (hr7.old hw)).below hbx) hp20 rfl)) [21] ?_; clear hs; intro a hs
 refine q_pvs 11 [19, 22] [(25, .int .u32 (wu32 ((wu32 (ix (eI .u8).d ((x0.B.take (w64 ((w64 (4 * a1)) + 4) : Int).toNat).drop (w64 (4 * a1) : Int).toNat) (0 : Int))) + (wu32 ((wu32 (ix (eI .u8).d ((x0.B.take (w64 ((w64 (4 * a1)) + 4) : Int).toNat).drop (w64 (4 * a1) : Int).toNat) (1 : Int))) * 256))))), (26, .slice (some ad19) ((x0.B.take (w64 ((w64 (4 * a1)) + 4) : Int).toNat).drop (w64 (4 * a1) : Int).toNat).length cc13)] hs ?_; clear hs; intro a hs
 obtain ⟨hp21, H⟩ := ite_only H
 refine q_run hs (by rfl) (fun wx hbx => (x_idx (T := 5) (sz := 1) (a := ad19) (n := ((x0.B.take (w64 ((w64 (4 * a1)) + 4) : Int).toNat).drop (w64 (4 * a1) : Int).toNat).length) (cap := cc13) (k := .i64) (i := (2 : Int)) hp21)) [26] ?_; clear hs; intro a hs
 refine q_run hs (by rfl) (fun wx hbx => (x_ld (off := 0) (p := ad19.add (((2 : Int) : Int).toNat * 1)) (v := .int .u8 (ix (eI .u8).d ((x0.B.take (w64 ((w64 (4 * a1)) + 4) : Int).toNat).drop (w64 (4 * a1) : Int).toNat) (2 : Int))) ((hc15 _ (hr7.old hw)).below hbx) hp21 rfl)) [27] ?_; clear hs; intro a hs
 refine q_pvs 17 [5, 25, 28] [(31, .int .u32 (wu32 ((wu32 ((wu32 (ix (eI .u8).d ((x0.B.take (w64 ((w64 (4 * a1)) + 4) : Int).toNat).drop (w64 (4 * a1) : Int).toNat) (0 : Int))) + (wu32 ((wu32 (ix (eI .u8).d ((x0.B.take (w64 ((w64 (4 * a1)) + 4) : Int).toNat).drop (w64 (4 * a1) : Int).toNat) (1 : Int))) * 256)))) + (wu32 ((wu32 (ix (eI .u8).d ((x0.B.take (w64 ((w64 (4 * a1)) + 4) : Int).toNat).drop (w64 (4 * a1) : Int).toNat) (2 : Int))) * 65536))))), (32, .slice (some ad19) ((x0.B.take (w64 ((w64 (4 * a1)) + 4) : Int).toNat).drop (w64 (4 * a1) : Int).toNat).length cc13)] hs ?_; clear hs; intro a hs
 obtain ⟨hp22, H⟩ := ite_only H
 refine q_run hs (by rfl) (fun wx hbx => (x_idx (T := 5) (sz := 1) (a := ad19) (n := ((x0.B.take (w64 ((w64 (4 * a1)) + 4) : Int).toNat).drop (w64 (4 * a1) : Int).toNat).length) (cap := cc13) (k := .i64) (i := (3 : Int)) hp22)) [32] ?_; clear hs; intro a hs
 refine q_run hs (by rfl) (fun wx hbx => (x_ld (off := 0) (p := ad19.add (((3 : Int) : Int).toNat * 1)) (v := .int .u8 (ix (eI .u8).d ((x0.B.take (w64 ((w64 (4 * a1)) + 4) : Int).toNat).drop (w64 (4 * a1) : Int).toNat) (3 : Int))) ((hc15 _ (hr7.old hw)).below hbx) hp22 rfl)) [33] ?_; clear hs; intro a hs
 refine q_pvs 23 [31, 34] [(4, .int .u32 (wu32 ((wu32 ((wu32 ((wu32 (ix (eI .u8).d ((x0.B.take (w64 ((w64 (4 * a1)) + 4) : Int).toNat).drop (w64 (4 * a1) : Int).toNat) (0 : Int))) + (wu32 ((wu32 (ix (eI .u8).d ((x0.B.take (w64 ((w64 (4 * a1)) + 4) : Int).toNat).drop (w64 (4 * a1) : Int).toNat) (1 : Int))) * 256)))) + (wu32 ((wu32 (ix (eI .u8).d ((x0.B.take (w64 ((w64 (4 * a1)) + 4) : Int).toNat).drop (w64 (4 * a1) : Int).toNat) (2 : Int))) * 65536)))) + (wu32 ((wu32 (ix (eI .u8).d ((x0.B.take (w64 ((w64 (4 * a1)) + 4) : Int).toNat).drop (w64 (4 * a1) : Int).toNat) (3 : Int))) * 16777216)))))] hs ?_; clear hs; intro a hs
 refine q_end ?_
 intro wq hbq
 replace hw := hw.behind hbq
 refine hK17 _ _ ?_
 refine wp_ret ?_
 obtain rfl := Option.some.inj H
 refine ret1 (t := 4) (v := .int .u32 (wu32 ((wu32 ((wu32 ((wu32 (ix (eI .u8).d ((x0.B.take (w64 ((w64 (4 * a1)) + 4) : Int).toNat).drop (w64 (4 * a1) : Int).toNat) (0 : Int))) + (wu32 ((wu32 (ix (eI .u8).d ((x0.B.take (w64 ((w64 (4 * a1)) + 4) : Int).toNat).drop (w64 (4 * a1) : Int).toNat) (1 : Int))) * 256)))) + (wu32 ((wu32 (ix (eI .u8).d ((x0.B.take (w64 ((w64 (4 * a1)) + 4) : Int).toNat).drop (w64 (4 * a1) : Int).toNat) (2 : Int))) * 65536)))) + (wu32 ((wu32 (ix (eI .u8).d ((x0.B.take (w64 ((w64 (4 * a1)) + 4) : Int).toNat).drop (w64 (4 * a1) : Int).toNat) (3 : Int))) * 16777216))))) hs (by kernel_rfl) (by kernel_rfl) ?_
 exact ⟨rfl, hw.only 0⟩

/-! (*rivet/rivetref05.Memory).set: function 46 -/
noncomputable def rivetref05_Memory_set.j1 (l21 : List Int) : Option Srivetref05_Memory := some (⟨l21⟩ : Srivetref05_Memory)
noncomputable def rivetref05_Memory_set.b7 (a1 : Int) (l8 : List Int) (v9 : Int) (v10 : Int) : Option ((List Int) × Int × Int ⊕ (List Int)) := (if v10 < 4 then (if 0 ≤ (w64 ((w64 (4 * a1)) + v10)) ∧ (w64 ((w64 (4 * a1)) + v10)) < (l8.length : Int) then some (.inl (l8.set ((w64 ((w64 (4 * a1)) + v10)) : Int).toNat (wu8 (v9.tmod 256)), wu32 (v9.tdiv 256), w64 (v10 + 1))) else none) else some (.inr l8))
noncomputable def rivetref05_Memory_set (x0 : Srivetref05_Memory) (a1 : Int) (a2 : Int) : Option Srivetref05_Memory := ((loopO (fun (σ : (List Int) × Int × Int) => rivetref05_Memory_set.b7 a1 σ.1 σ.2.1 σ.2.2) (x0.B, a2, 0)).bind fun e => rivetref05_Memory_set.j1 e)
set_option maxRecDepth 100000 in
set_option maxHeartbeats 4000000 in
theorem rivetref05_Memory_set.calls (ks0 : List Nat) (A0 : Option Addr) (x0 : Srivetref05_Memory) (a1 : Int) (a2 : Int) (r : Srivetref05_Memory) (w0 : World) (hw : St ks0 w0 w0 [mSrivetref05_Memory A0 x0]) (H : rivetref05_Memory_set x0 a1 a2 = some r) :
    Calls Tryd.prog 46 #[.pointer A0, .int .i64 a1, .int .u32 a2] w0 fun e w' => e = .returned (.tuple #[]) ∧ St ks0 w0 w' [mSrivetref05_Memory A0 r] := by
 unfold rivetref05_Memory_set at H
 refine go_fn Tryd.func46 rfl Tryd.ntmps46 ?_; intro a hs
 obtain ⟨g1, Aa2, cc3, hAg, hwg⟩ := mSrivetref05_Memory.open hw
 clear hw; subst hAg; have hw := hwg; clear hwg
 replace hw : St ks0 w0 _ [box g1 80 [.slice Aa2 x0.B.length cc3], own 5 (eI .u8) Aa2 cc3 x0.B] := hw
 refine go_sp [] [(0, .pointer (some (⟨g1, 0, none⟩ : Addr))), (6, .int .i64 0)] hs ?_; clear hs; intro a hs
 refine name_k fun K6 hK6 => ?_
 refine wp_block ?_
 obtain ⟨e7, hl7, HX7⟩ := bind_some H
 have hJ1 : ∀ (l21 : List Int) (a : Act) (w : World), Slots a 25 [] → St ks0 w0 w [box g1 80 [.slice Aa2 l21.length cc3], own 5 (eI .u8) Aa2 cc3 l21] → rivetref05_Memory_set.j1 l21 = some r → K6 a w := by
  intro l21 a w hs hw H
  unfold rivetref05_Memory_set.j1 at H
  refine hK6 _ _ ?_
  obtain rfl := Option.some.inj H
  replace hw := hw.up 1
  replace hw := hw.up 1
  replace hw := mSrivetref05_Memory.close (x := (⟨l21⟩ : Srivetref05_Memory)) hw
  refine end0 hs (by kernel_rfl) ?_
  exact ⟨rfl, hw.only 1⟩
 clear H
 refine go_loop (σ := (List Int) × Int × Int) (fun σ a w => Slots a 25 [(0, .pointer (some (⟨g1, 0, none⟩ : Addr))), (1, .int .i64 a1), (2, .int .u32 σ.2.1), (6, .int .i64 σ.2.2)] ∧ St ks0 w0 w [box g1 80 [.slice Aa2 σ.1.length cc3], own 5 (eI .u8) Aa2 cc3 σ.1]) hl7 (by exact ⟨hs.kx, hw⟩) ?_
 rintro ⟨l8, v9, v10⟩ a w ⟨hs, hw⟩ o H hr7
 replace hs : Slots a 25 [(0, .pointer (some (⟨g1, 0, none⟩ : Addr))), (1, .int .i64 a1), (2, .int .u32 v9), (6, .int .i64 v10)] := hs
 replace hw : St ks0 w0 w [box g1 80 [.slice Aa2 l8.length cc3], own 5 (eI .u8) Aa2 cc3 l8] := hw
 replace H : rivetref05_Memory_set.b7 a1 l8 v9 v10 = some o := H
 unfold rivetref05_Memory_set.b7 at H
 refine go_seq_k fun K11 hK11 => ?_
 refine go_sp [] [(8, .bool (decide (v10 < 4)))] hs ?_; clear hs; intro a hs
 refine go_cond hs (decide (v10 < 4)) (fun hc => ?_) fun hc => ?_
 ·replace H := ite_t H (of_decide_eq_true hc)
  have hb13 := hc
  rw [hb13] at hs
  refine wp_skip ?_
  refine hK11 _ _ ?_
  refine go_seq_k fun K14 hK14 => ?_
  refine wp_block ?_
  refine go_sk fun K15 hK15 => ?_
  refine go_pvs 3 [8] [(13, .pointer (some (⟨g1, 0, none⟩ : Addr)))] hs ?_; clear hs; intro a hs
  refine go_run hs (by rfl) (x_bld (g := g1) (o := 0) (p := (⟨g1, 0, none⟩ : Addr)) (v := .slice Aa2 l8.length cc3) (hw.up 0)) [13] ?_; clear hs; intro a hs
  refine go_pvs 11 [] [(18, .int .i64 (w64 ((w64 (4 * a1)) + v10))), (21, .int .u8 (wu8 (v9.tmod 256)))] hs ?_; clear hs; intro a hs
  obtain ⟨hp16, H⟩ := ite_only H
  obtain ⟨ad17, rfl⟩ := (Rd.of_own (hw.up 1)).some hp16.1 hp16.2
  refine go_run hs (by rfl) (x_idx (T := 5) (sz := 1) (a := ad17) (n := l8.length) (cap := cc3) (k := .i64) (i := (w64 ((w64 (4 * a1)) + v10))) hp16) [14, 18] ?_; clear hs; intro a hs
  replace hw := hw.up 1
  obtain ⟨wd18, hx19, hw⟩ := x_put (P := Tryd.prog) (ty := 0) (t := 5) (x := (Operand.tmp 22)) (y := (Operand.tmp 21)) (off := 0) (p := ad17.add ((w64 ((w64 (4 * a1)) + v10)).toNat * 1)) (v := .int .u8 (wu8 (v9.tmod 256))) (vs := [.int .u8 (wu8 (v9.tmod 256))]) (i := (w64 ((w64 (4 * a1)) + v10))) (e' := (wu8 (v9.tmod 256) : Int)) hs hw rfl hp16.1 hp16.2 (by kernel_rfl) rfl (by kernel_rfl) rfl (by kernel_rfl) (Nat.le_of_ble_eq_true rfl) (by simp [Value.oneCell']) (by kernel_rfl)
  refine go_unit hs (by rfl) hx19 [21, 22] ?_; clear hs; intro a hs
  replace hw : St ks0 w0 wd18 [own 5 (eI .u8) (some ad17) cc3 (l8.set ((w64 ((w64 (4 * a1)) + v10)) : Int).toNat (wu8 (v9.tmod 256))), box g1 80 [.slice (some ad17) (l8.set ((w64 ((w64 (4 * a1)) + v10)) : Int).toNat (wu8 (v9.tmod 256))).length cc3]] := by rw [show (l8.set ((w64 ((w64 (4 * a1)) + v10)) : Int).toNat (wu8 (v9.tmod 256))).length = (l8).length from List.length_set]; exact hw
  refine go_end (hK15 _ _ ?_)
  refine go_plain [] [(2, .int .u32 (wu32 (v9.tdiv 256)))] hs ?_; clear hs; intro a hs
  refine ib_norm ?_
  refine hK14 _ _ ?_
  refine go_plain [] [(6, .int .i64 (w64 (v10 + 1)))] hs ?_; clear hs; intro a hs
  replace hw := hw.up 1
  exact round_end (l8.set ((w64 ((w64 (4 * a1)) + v10)) : Int).toNat (wu8 (v9.tmod 256)), wu32 (v9.tdiv 256), w64 (v10 + 1)) (Option.some.inj H).symm ⟨hs.kx, hw⟩
 ·replace H := ite_f H (of_decide_eq_false hc)
  have hb20 := hc
  rw [hb20] at hs
  refine wp_exit ?_
  refine th_exit ?_
  refine th_exit ?_
  refine in_block ?_
  replace hw := hw.up 1
  replace hw := hw.up 1
  rw [← hr7 _ (Option.some.inj H).symm] at HX7
  exact hJ1 l8 _ _ hs.kx hw HX7

/-! rivet/rivetref05.New: function 45 -/
noncomputable def rivetref05_New.j2 (a0 : Int) : Option ((Option Srivetref05_Memory) × Int) := (if 0 ≤ (w64 (4 * a0)) ∧ (w64 (4 * a0)) ≤ 281474976710656 then some ((some (⟨List.replicate ((w64 (4 * a0)) : Int).toNat (eI .u8).d⟩ : Srivetref05_Memory)), 0) else none)
noncomputable def rivetref05_New.j1 (a0 : Int) (v5 : Bool) : Option ((Option Srivetref05_Memory) × Int) := (if v5 = true then some ((none : Option Srivetref05_Memory), 2) else rivetref05_New.j2 a0)
noncomputable def rivetref05_New (a0 : Int) : Option ((Option Srivetref05_Memory) × Int) := (if a0 < 0 then rivetref05_New.j1 a0 true else rivetref05_New.j1 a0 (decide (a0 > 4096)))
set_option maxRecDepth 100000 in
set_option maxHeartbeats 4000000 in
theorem rivetref05_New.calls (a0 : Int) (r : (Option Srivetref05_Memory) × Int) (w0 : World) (H : rivetref05_New a0 = some r) :
    Calls Tryd.prog 45 #[.int .i64 a0] w0 fun e w' => ∃ A_0, e = .returned (.tuple #[.pointer A_0, .int .i64 r.2]) ∧ St [] w0 w' [oM mSrivetref05_Memory A_0 r.1] := by
 have hw : St [] w0 w0 [] := St.nil w0
 unfold rivetref05_New at H
 refine go_fn Tryd.func45 rfl Tryd.ntmps45 ?_; intro a hs
 refine go_sp [] [] hs ?_; clear hs; intro a hs
 refine go_seq_k fun K2 hK2 => ?_
 have hJ2 : ∀ (a : Act) (w : World), Slots a 15 [(0, .int .i64 a0)] → St [] w0 w [] → rivetref05_New.j2 a0 = some r → K2 a w := by
  intro a w hs hw H
  unfold rivetref05_New.j2 at H
  refine hK2 _ _ ?_
  refine go_sk fun K10 hK10 => ?_
  refine go_pvs 2 [0] [(11, .int .i64 (w64 (4 * a0)))] hs ?_; clear hs; intro a hs
  obtain ⟨hp11, H⟩ := ite_only H
  obtain ⟨Aa12, cc13, wd14, hx15, hw⟩ := n_make (P := Tryd.prog) (t := 23) (ty := 23) (T := 5) (x := (Operand.tmp 11)) (y := (Operand.tmp 11)) (E := (eI .u8)) (z := .int .u8 0) (bytes := 1) (n := (w64 (4 * a0))) hs hw (by kernel_rfl) (by kernel_rfl) (by kernel_rfl) (by kernel_rfl) (by kernel_rfl) hp11.1 (by have := hp11.2; omega) (by have := hp11.2; omega)
  refine go_run hs (by rfl) hx15 [11] ?_; clear hs; intro a hs
  refine go_pvs 4 [12] [(13, .agg #[.slice Aa12 (List.replicate ((w64 (4 * a0)) : Int).toNat (eI .u8).d).length cc13])] hs ?_; clear hs; intro a hs
  obtain ⟨g17, wd18, hx19, hw⟩ := x_boxc (P := Tryd.prog) (elem := 80) (v := (Operand.tmp 13)) (ty := 56) (cs := [.slice Aa12 (List.replicate ((w64 (4 * a0)) : Int).toNat (eI .u8).d).length cc13]) hs hw (by kernel_rfl)
  refine go_run hs (by rfl) hx19 [13] ?_; clear hs; intro a hs
  refine go_pvs 7 [14] [(2, .pointer (some (⟨g17, 0, none⟩ : Addr))), (3, .int .i64 0)] hs ?_; clear hs; intro a hs
  refine go_end (hK10 _ _ ?_)
  refine wp_ret ?_
  obtain rfl := Option.some.inj H
  replace hw := hw.up 1
  replace hw := hw.up 1
  replace hw := mSrivetref05_Memory.close (x := (⟨List.replicate ((w64 (4 * a0)) : Int).toNat (eI .u8).d⟩ : Srivetref05_Memory)) hw
  refine ret2 (t1 := 2) (v1 := .pointer (some (⟨g17, 0, none⟩ : Addr))) (t2 := 3) (v2 := .int .i64 0) hs (by kernel_rfl) (by kernel_rfl) (by kernel_rfl) ?_
  exact ⟨(some ⟨g17, 0, none⟩), rfl, hw.only 1⟩
 refine go_seq_k fun K3 hK3 => ?_
 have hJ1 : ∀ (v5 : Bool) (a : Act) (w : World), Slots a 15 [(0, .int .i64 a0), (9, .bool v5)] → St [] w0 w [] → rivetref05_New.j1 a0 v5 = some r → K3 a w := by
  intro v5 a w hs hw H
  unfold rivetref05_New.j1 at H
  refine hK3 _ _ ?_
  refine go_cond hs v5 (fun hc => ?_) fun hc => ?_
  ·replace H := ite_t H hc
   have hb6 := hc
   rw [hb6] at hs
   refine go_sp [0, 9] [(2, .pointer none), (3, .int .i64 2)] hs ?_; clear hs; intro a hs
   refine wp_ret ?_
   refine th_ret ?_
   obtain rfl := Option.some.inj H
   replace hw := St.oM_nil mSrivetref05_Memory hw
   refine ret2 (t1 := 2) (v1 := .pointer none) (t2 := 3) (v2 := .int .i64 2) hs (by kernel_rfl) (by kernel_rfl) (by kernel_rfl) ?_
   exact ⟨none, rfl, hw.only 1⟩
  ·replace H := ite_f H (ff hc)
   have hb9 := hc
   rw [hb9] at hs
   refine wp_skip ?_
   exact hJ2 _ _ hs.kx hw H
 refine go_region ?_
 refine go_pvs 3 [] [(6, .bool (decide (a0 < 0)))] hs ?_; clear hs; intro a hs
 cases hb4 : (decide (a0 < 0))
 ·replace H := ite_f H (of_decide_eq_false hb4)
  rw [hb4] at hs
  refine go_pvs 6 [6] [(9, .bool (decide (a0 > 4096)))] hs ?_; clear hs; intro a hs
  refine go_end ?_
  exact hJ1 (decide (a0 > 4096)) _ _ hs.kx hw H
 ·replace H := ite_t H (of_decide_eq_true hb4)
  rw [hb4] at hs
  refine go_pvs 6 [6] [(9, .bool true)] hs ?_; clear hs; intro a hs
  refine go_end ?_
  exact hJ1 true _ _ hs.kx hw H

/-! (*rivet/rivetref05.Memory).Place: function 31 -/
noncomputable def rivetref05_Memory_Place.b18 (l2 : List Int) (a1 : Int) (l19 : List Int) (v22 : Int) : Option ((List Int) × Int ⊕ (List Int)) := (if v22 < (l2.length : Int) then (if 0 ≤ v22 ∧ v22 < (l2.length : Int) then ((rivetref05_Memory_set (⟨l19⟩ : Srivetref05_Memory) (w64 (a1 + v22)) (ix (eI .u32).d l2 v22)).bind fun t30 => (some (.inl (t30.B, w64 (v22 + 1))))) else none) else some (.inr l19))
noncomputable def rivetref05_Memory_Place.j3 (l37 : List Int) : Option (Int × Srivetref05_Memory) := some (0, (⟨l37⟩ : Srivetref05_Memory))
noncomputable def rivetref05_Memory_Place.j2 (l2 : List Int) (a1 : Int) (x0 : Srivetref05_Memory) : Option (Int × Srivetref05_Memory) := ((loopO (fun (σ : (List Int) × Int) => rivetref05_Memory_Place.b18 l2 a1 σ.1 σ.2) (x0.B, 0)).bind fun e => rivetref05_Memory_Place.j3 e)
noncomputable def rivetref05_Memory_Place.j1 (x0 : Srivetref05_Memory) (l2 : List Int) (a1 : Int) (v12 : Bool) : Option (Int × Srivetref05_Memory) := (if v12 = true then some (11, x0) else rivetref05_Memory_Place.j2 l2 a1 x0)
noncomputable def rivetref05_Memory_Place (x0 : Srivetref05_Memory) (a1 : Int) (l2 : List Int) : Option (Int × Srivetref05_Memory) := (nm (w64 ((x0.B.length : Int).tdiv 4)) fun y7 => (if a1 < 0 then rivetref05_Memory_Place.j1 x0 l2 a1 true else (if a1 > y7 then rivetref05_Memory_Place.j1 x0 l2 a1 true else rivetref05_Memory_Place.j1 x0 l2 a1 (decide ((l2.length : Int) > (w64 (y7 - a1)))))))
set_option maxRecDepth 100000 in
set_option maxHeartbeats 4000000 in
theorem rivetref05_Memory_Place.calls (ks0 : List Nat) (A0 : Option Addr) (x0 : Srivetref05_Memory) (a1 : Int) (A2 : Option Addr) (c2 : Nat) (l2 : List Int) (r : Int × Srivetref05_Memory) (w0 : World) (hw : St ks0 w0 w0 [mSrivetref05_Memory A0 x0]) (hr2 : ∀ w', Kp ks0 w0 w' → Rd w' (eI .u32) A2 c2 l2) (H : rivetref05_Memory_Place x0 a1 l2 = some r) :
    Calls Tryd.prog 31 #[.pointer A0, .int .i64 a1, .slice A2 l2.length c2] w0 fun e w' => e = .returned (.int .i64 r.1) ∧ St ks0 w0 w' [mSrivetref05_Memory A0 r.2] := by
 unfold rivetref05_Memory_Place at H
 refine go_fn Tryd.func31 rfl Tryd.ntmps31 ?_; intro a hs
 obtain ⟨g1, Aa2, cc3, hAg, hwg⟩ := mSrivetref05_Memory.open hw
 clear hw; subst hAg; have hw := hwg; clear hwg
 replace hw : St ks0 w0 _ [box g1 80 [.slice Aa2 x0.B.length cc3], own 5 (eI .u8) Aa2 cc3 x0.B] := hw
 refine go_sp [] [(0, .pointer (some (⟨g1, 0, none⟩ : Addr)))] hs ?_; clear hs; intro a hs
 refine go_sk fun K6 hK6 => ?_
 refine go_pvs 3 [] [(11, .pointer (some (⟨g1, 0, none⟩ : Addr)))] hs ?_; clear hs; intro a hs
 refine go_run hs (by rfl) (x_bld (g := g1) (o := 0) (p := (⟨g1, 0, none⟩ : Addr)) (v := .slice Aa2 x0.B.length cc3) (hw.up 0)) [11] ?_; clear hs; intro a hs
 refine go_pvs 7 [12] [(7, .int .i64 (w64 ((x0.B.length : Int).tdiv 4)))] hs ?_; clear hs; intro a hs
 obtain ⟨y7, hy7, H⟩ := nm_some H
 replace hs : Slots a 45 [(0, .pointer (some (⟨g1, 0, none⟩ : Addr))), (1, .int .i64 a1), (2, .slice A2 l2.length c2), (7, .int .i64 y7)] := by rw [hy7]; exact hs.kx
 refine go_end (hK6 _ _ ?_)
 refine go_seq_k fun K8 hK8 => ?_
 have hJ2 : ∀ (a : Act) (w : World), Slots a 45 [(0, .pointer (some (⟨g1, 0, none⟩ : Addr))), (1, .int .i64 a1), (2, .slice A2 l2.length c2)] → St ks0 w0 w [box g1 80 [.slice Aa2 x0.B.length cc3], own 5 (eI .u8) Aa2 cc3 x0.B] → rivetref05_Memory_Place.j2 l2 a1 x0 = some r → K8 a w := by
  intro a w hs hw H
  unfold rivetref05_Memory_Place.j2 at H
  refine hK8 _ _ ?_
  refine go_seq_k fun K16 hK16 => ?_
  refine go_sp [] [(8, .int .i64 0)] hs ?_; clear hs; intro a hs
  refine wp_block ?_
  obtain ⟨e18, hl18, HX18⟩ := bind_some H
  have hJ3 : ∀ (Aa38 : Option Addr) (cc39 : Nat) (l37 : List Int) (a : Act) (w : World), Slots a 45 [] → St ks0 w0 w [box g1 80 [.slice Aa38 l37.length cc39], own 5 (eI .u8) Aa38 cc39 l37] → rivetref05_Memory_Place.j3 l37 = some r → K16 a w := by
   intro Aa38 cc39 l37 a w hs hw H
   unfold rivetref05_Memory_Place.j3 at H
   refine hK16 _ _ ?_
   refine go_sp [] [(6, .int .i64 0)] hs ?_; clear hs; intro a hs
   refine wp_ret ?_
   obtain rfl := Option.some.inj H
   replace hw := hw.up 1
   replace hw := hw.up 1
   replace hw := mSrivetref05_Memory.close (x := (⟨l37⟩ : Srivetref05_Memory)) hw
   refine ret1 (t := 6) (v := .int .i64 0) hs (by kernel_rfl) (by kernel_rfl) ?_
   exact ⟨rfl, hw.only 1⟩
  clear H
  refine go_loop (σ := (List Int) × Int) (fun σ a w => ∃ Aa20, ∃ cc21, Slots a 45 [(0, .pointer (some (⟨g1, 0, none⟩ : Addr))), (1, .int .i64 a1), (2, .slice A2 l2.length c2), (8, .int .i64 σ.2)] ∧ St ks0 w0 w [box g1 80 [.slice Aa20 σ.1.length cc21], own 5 (eI .u8) Aa20 cc21 σ.1]) hl18 (by exact ⟨Aa2, cc3, hs.kx, hw⟩) ?_
  rintro ⟨l19, v22⟩ a w ⟨Aa20, cc21, hs, hw⟩ o H hr18
  replace hs : Slots a 45 [(0, .pointer (some (⟨g1, 0, none⟩ : Addr))), (1, .int .i64 a1), (2, .slice A2 l2.length c2), (8, .int .i64 v22)] := hs
  replace hw : St ks0 w0 w [box g1 80 [.slice Aa20 l19.length cc21], own 5 (eI .u8) Aa20 cc21 l19] := hw
  replace H : rivetref05_Memory_Place.b18 l2 a1 l19 v22 = some o := H
  unfold rivetref05_Memory_Place.b18 at H
  refine go_seq_k fun K23 hK23 => ?_
  refine go_sp [] [(33, .bool (decide (v22 < (l2.length : Int))))] hs ?_; clear hs; intro a hs
  refine go_cond hs (decide (v22 < (l2.length : Int))) (fun hc => ?_) fun hc => ?_
  ·replace H := ite_t H (of_decide_eq_true hc)
   have hb25 := hc
   rw [hb25] at hs
   refine wp_skip ?_
   refine hK23 _ _ ?_
   refine go_seq_k fun K26 hK26 => ?_
   refine wp_block ?_
   refine go_region ?_
   refine go_pvs 6 [33] [(36, .pointer (some (⟨g1, 0, none⟩ : Addr))), (39, .int .i64 (w64 (a1 + v22))), (40, .slice A2 l2.length c2), (41, .int .i64 v22)] hs ?_; clear hs; intro a hs
   obtain ⟨hp27, H⟩ := ite_only H
   obtain ⟨ad28, rfl⟩ := (hr2 _ hw.kp).some hp27.1 hp27.2
   refine go_run hs (by rfl) (x_idx (T := 38) (sz := 1) (a := ad28) (n := l2.length) (cap := c2) (k := .i64) (i := v22) hp27) [40, 41] ?_; clear hs; intro a hs
   refine go_run hs (by rfl) (x_ld (off := 0) (p := ad28.add (v22.toNat * 1)) (v := .int .u32 (ix (eI .u32).d l2 v22)) (hr2 _ hw.kp) hp27 rfl) [42] ?_; clear hs; intro a hs
   replace hw := hw.up 1
   replace hw := hw.up 1
   replace hw := mSrivetref05_Memory.close (x := (⟨l19⟩ : Srivetref05_Memory)) hw
   obtain ⟨ks29, hgks29, hstks29, hbkks29⟩ := hw.lend 1
   obtain ⟨t30, hx31, H⟩ := bind_some H
   refine go_call hs (by rfl) (rivetref05_Memory_set.calls ks29 (some ⟨g1, 0, none⟩) (⟨l19⟩ : Srivetref05_Memory) (w64 (a1 + v22)) (ix (eI .u32).d l2 v22) t30 _ hgks29 hx31) ?_
   rintro e wd32 ⟨rfl, hw33⟩
   refine ⟨_, rfl, ?_⟩
   replace hw := hbkks29 _ _ hw33
   obtain ⟨Aa34, cc35, hw⟩ := mSrivetref05_Memory.open1 hw
   replace hw : St ks0 w0 _ [box g1 80 [.slice Aa34 t30.B.length cc35], own 5 (eI .u8) Aa34 cc35 t30.B] := hw
   clear hs; intro a hs; replace hs := hs.rms [36, 39, 43, 44]
   refine go_end ?_
   refine ib_norm ?_
   refine hK26 _ _ ?_
   refine go_plain [] [(8, .int .i64 (w64 (v22 + 1)))] hs ?_; clear hs; intro a hs
   replace hw := hw.up 1
   replace hw := hw.up 1
   exact round_end (t30.B, w64 (v22 + 1)) (Option.some.inj H).symm ⟨Aa34, cc35, hs.kx, hw⟩
  ·replace H := ite_f H (of_decide_eq_false hc)
   have hb36 := hc
   rw [hb36] at hs
   refine wp_exit ?_
   refine th_exit ?_
   refine th_exit ?_
   refine in_block ?_
   replace hw := hw.up 1
   replace hw := hw.up 1
   rw [← hr18 _ (Option.some.inj H).symm] at HX18
   exact hJ3 Aa20 cc21 l19 _ _ hs.kx hw HX18
 refine go_seq_k fun K9 hK9 => ?_
 have hJ1 : ∀ (v12 : Bool) (a : Act) (w : World), Slots a 45 [(0, .pointer (some (⟨g1, 0, none⟩ : Addr))), (1, .int .i64 a1), (2, .slice A2 l2.length c2), (29, .bool v12)] → St ks0 w0 w [box g1 80 [.slice Aa2 x0.B.length cc3], own 5 (eI .u8) Aa2 cc3 x0.B] → rivetref05_Memory_Place.j1 x0 l2 a1 v12 = some r → K9 a w := by
  intro v12 a w hs hw H
  unfold rivetref05_Memory_Place.j1 at H
  refine hK9 _ _ ?_
  refine go_cond hs v12 (fun hc => ?_) fun hc => ?_
  ·replace H := ite_t H hc
   have hb13 := hc
   rw [hb13] at hs
   refine go_sp [0, 1, 2, 29] [(6, .int .i64 11)] hs ?_; clear hs; intro a hs
   refine wp_ret ?_
   refine th_ret ?_
   obtain rfl := Option.some.inj H
   replace hw := hw.up 1
   replace hw := hw.up 1
   replace hw := mSrivetref05_Memory.close (x := x0) hw
   refine ret1 (t := 6) (v := .int .i64 11) hs (by kernel_rfl) (by kernel_rfl) ?_
   exact ⟨rfl, hw.only 1⟩
  ·replace H := ite_f H (ff hc)
   have hb15 := hc
   rw [hb15] at hs
   refine wp_skip ?_
   replace hw := hw.up 1
   replace hw := hw.up 1
   exact hJ2 _ _ hs.kx hw H
 refine go_region ?_
 refine go_pvs 3 [] [(17, .bool (decide (a1 < 0)))] hs ?_; clear hs; intro a hs
 cases hb10 : (decide (a1 < 0))
 ·replace H := ite_f H (of_decide_eq_false hb10)
  rw [hb10] at hs
  refine go_pvs 8 [17] [(22, .bool (decide (a1 > y7)))] hs ?_; clear hs; intro a hs
  cases hb11 : (decide (a1 > y7))
  ·replace H := ite_f H (of_decide_eq_false hb11)
   rw [hb11] at hs
   refine go_pvs 15 [7, 22] [(29, .bool (decide ((l2.length : Int) > (w64 (y7 - a1)))))] hs ?_; clear hs; intro a hs
   refine go_end ?_
   replace hw := hw.up 1
   replace hw := hw.up 1
   exact hJ1 (decide ((l2.length : Int) > (w64 (y7 - a1)))) _ _ hs.kx hw H
  ·replace H := ite_t H (of_decide_eq_true hb11)
   rw [hb11] at hs
   refine go_pvs 15 [7, 22] [(29, .bool true)] hs ?_; clear hs; intro a hs
   refine go_end ?_
   replace hw := hw.up 1
   replace hw := hw.up 1
   exact hJ1 true _ _ hs.kx hw H
 ·replace H := ite_t H (of_decide_eq_true hb10)
  rw [hb10] at hs
  refine go_pvs 15 [7, 17] [(29, .bool true)] hs ?_; clear hs; intro a hs
  refine go_end ?_
  replace hw := hw.up 1
  replace hw := hw.up 1
  exact hJ1 true _ _ hs.kx hw H

/-! (*rivet/rivetref05.Memory).Words: function 18 -/
noncomputable def rivetref05_Memory_Words.j1 (l44 : List Int) : Option (List Int) := some l44
noncomputable def rivetref05_Memory_Words.b18 (x0 : Srivetref05_Memory) (l19 : List Int) (v22 : Int) : Option ((List Int) × Int ⊕ (List Int)) := (if v22 < (w64 ((x0.B.length : Int).tdiv 4)) then ((rivetref05_Memory_get x0 v22).bind fun t28 => ((if l19.length + ([t28] : List Int).length ≤ 35184372088832 then some (.inl (l19 ++ ([t28] : List Int), w64 (v22 + 1))) else none))) else some (.inr l19))
noncomputable def rivetref05_Memory_Words (x0 : Srivetref05_Memory) : Option (List Int) := ((loopO (fun (σ : (List Int) × Int) => rivetref05_Memory_Words.b18 x0 σ.1 σ.2) (([] : List Int), 0)).bind fun e => rivetref05_Memory_Words.j1 e)
set_option maxRecDepth 100000 in
set_option maxHeartbeats 4000000 in
theorem rivetref05_Memory_Words.calls (A0 : Option Addr) (x0 : Srivetref05_Memory) (r : (List Int)) (w0 : World) (hr0 : rSrivetref05_Memory w0 A0 x0) (H : rivetref05_Memory_Words x0 = some r) :
    Calls Tryd.prog 18 #[.pointer A0] w0 fun e w' => ∃ A_0 c_0, e = .returned (.slice A_0 r.length c_0) ∧ St [] w0 w' [own 38 (eI .u32) A_0 c_0 r] := by
 have hw : St [] w0 w0 [] := St.nil w0
 unfold rivetref05_Memory_Words at H
 refine go_fn Tryd.func18 rfl Tryd.ntmps18 ?_; intro a hs
 have hk3 := hr0; obtain ⟨g1, Aa5, cc6, hA4, hrx2, hr7⟩ := hr0; subst hA4
 refine go_sp [] [(0, .pointer (some (⟨g1, 0, none⟩ : Addr)))] hs ?_; clear hs; intro a hs
 refine go_sk fun K10 hK10 => ?_
 obtain ⟨Aa11, cc12, wd13, hx14, hw⟩ := n_lit0 (P := Tryd.prog) (t := 22) (ty := 22) (T := 38) hs hw (eI .u32) (by kernel_rfl) (by kernel_rfl)
 refine go_run hs (by rfl) hx14 [] ?_; clear hs; intro a hs
 refine go_pvs 2 [5] [(3, .slice Aa11 ([] : List Int).length cc12)] hs ?_; clear hs; intro a hs
 refine go_end (hK10 _ _ ?_)
 refine go_seq_k fun K16 hK16 => ?_
 refine go_sp [] [(4, .int .i64 0)] hs ?_; clear hs; intro a hs
 refine wp_block ?_
 obtain ⟨e18, hl18, HX18⟩ := bind_some H
 have hJ1 : ∀ (Aa45 : Option Addr) (cc46 : Nat) (l44 : List Int) (a : Act) (w : World), Slots a 23 [(3, .slice Aa45 l44.length cc46)] → St [] w0 w [own 38 (eI .u32) Aa45 cc46 l44] → rivetref05_Memory_Words.j1 l44 = some r → K16 a w := by
  intro Aa45 cc46 l44 a w hs hw H
  unfold rivetref05_Memory_Words.j1 at H
  refine hK16 _ _ ?_
  refine go_sp [3] [(2, .slice Aa45 l44.length cc46)] hs ?_; clear hs; intro a hs
  refine wp_ret ?_
  obtain rfl := Option.some.inj H
  refine ret1 (t := 2) (v := .slice Aa45 l44.length cc46) hs (by kernel_rfl) (by kernel_rfl) ?_
  exact ⟨Aa45, cc46, rfl, hw.only 1⟩
 clear H
 refine go_loop (σ := (List Int) × Int) (fun σ a w => ∃ Aa20, ∃ cc21, Slots a 23 [(0, .pointer (some (⟨g1, 0, none⟩ : Addr))), (3, .slice Aa20 σ.1.length cc21), (4, .int .i64 σ.2)] ∧ St [] w0 w [own 38 (eI .u32) Aa20 cc21 σ.1]) hl18 (by exact ⟨Aa11, cc12, hs.kx, hw⟩) ?_
 rintro ⟨l19, v22⟩ a w ⟨Aa20, cc21, hs, hw⟩ o H hr18
 replace hs : Slots a 23 [(0, .pointer (some (⟨g1, 0, none⟩ : Addr))), (3, .slice Aa20 l19.length cc21), (4, .int .i64 v22)] := hs
 replace hw : St [] w0 w [own 38 (eI .u32) Aa20 cc21 l19] := hw
 replace H : rivetref05_Memory_Words.b18 x0 l19 v22 = some o := H
 unfold rivetref05_Memory_Words.b18 at H
 refine go_seq_k fun K23 hK23 => ?_
 refine go_sk fun K24 hK24 => ?_
 refine go_pvs 4 [] [(6, .int .i64 v22), (9, .pointer (some (⟨g1, 0, none⟩ : Addr)))] hs ?_; clear hs; intro a hs
 refine go_run hs (by rfl) (x_rld (g := g1) (o := 0) (p := (⟨g1, 0, none⟩ : Addr)) (v := .slice Aa5 x0.B.length cc6) (hrx2.old hw)) [9] ?_; clear hs; intro a hs
 refine go_pvs 8 [6, 10] [(13, .bool (decide (v22 < (w64 ((x0.B.length : Int).tdiv 4)))))] hs ?_; clear hs; intro a hs
 refine go_end (hK24 _ _ ?_)
 refine go_cond hs (decide (v22 < (w64 ((x0.B.length : Int).tdiv 4)))) (fun hc => ?_) fun hc => ?_
 ·replace H := ite_t H (of_decide_eq_true hc)
  have hb25 := hc
  rw [hb25] at hs
  refine wp_skip ?_
  refine hK23 _ _ ?_
  refine go_seq_k fun K26 hK26 => ?_
  refine wp_block ?_
  refine go_region ?_
  refine go_pvs 3 [3, 13] [(16, .slice Aa20 l19.length cc21), (17, .pointer (some (⟨g1, 0, none⟩ : Addr))), (18, .int .i64 v22)] hs ?_; clear hs; intro a hs
  obtain ⟨t28, hx29, H⟩ := bind_some H
  refine go_call hs (by rfl) (rivetref05_Memory_get.calls (some (⟨g1, 0, none⟩ : Addr)) x0 v22 t28 _ (rSrivetref05_Memory.old hk3 hw) hx29) ?_
  rintro e wd30 ⟨rfl, hw31⟩
  refine ⟨_, rfl, ?_⟩
  replace hw := hw.call hw31
  clear hs; intro a hs; replace hs := hs.rms [17, 18]
  obtain ⟨Aa32, cc33, wd34, hx35, hw⟩ := n_lit (P := Tryd.prog) (t := 22) (ty := 22) (T := 38) (len := 1) (parts := #[(0, (Operand.tmp 19))]) (z := .int .u32 0) (bytes := 4) (cells := #[.int .u32 t28]) hs hw (eI .u32) ([t28] : List Int) (by kernel_rfl) (by kernel_rfl) (by kernel_rfl) (by kernel_rfl) (by kernel_rfl) (by kernel_rfl) (by kernel_rfl)
  refine go_run hs (by rfl) hx35 [19] ?_; clear hs; intro a hs
  obtain ⟨hp37, H⟩ := ite_only H
  have hsrc42 : Src Tryd.prog (eI .u32).sz 22 (.slice Aa32 ([t28] : List Int).length cc33) ([t28] : List Int).length (([t28] : List Int).flatMap (eI .u32).enc) _ := (Src.of_rd (E := (eI .u32)) (e' := 38) (by kernel_rfl) (Rd.of_own (hw.up 0)))
  replace hw := hw.up 1
  obtain ⟨Aa38, cc39, wd40, hx41, hw⟩ := x_append (P := Tryd.prog) (t := 22) (tx := 22) (ty := 22) (x := (Operand.tmp 16)) (y := (Operand.tmp 20)) (z := .int .u32 0) (bytes := 4) (l2 := ([t28] : List Int)) hs hw (by kernel_rfl) (by kernel_rfl) (by kernel_rfl) (by kernel_rfl) (by kernel_rfl) hsrc42 (by omega) (by omega)
  refine go_run hs (by rfl) hx41 [16, 20] ?_; clear hs; intro a hs
  refine go_pvs 7 [21] [(3, .slice Aa38 (l19 ++ ([t28] : List Int)).length cc39)] hs ?_; clear hs; intro a hs
  refine go_end ?_
  refine ib_norm ?_
  refine hK26 _ _ ?_
  refine go_plain [] [(4, .int .i64 (w64 (v22 + 1)))] hs ?_; clear hs; intro a hs
  replace hw := hw.only 1
  exact round_end (l19 ++ ([t28] : List Int), w64 (v22 + 1)) (Option.some.inj H).symm ⟨Aa38, cc39, hs.kx, hw⟩
 ·replace H := ite_f H (of_decide_eq_false hc)
  have hb43 := hc
  rw [hb43] at hs
  refine wp_exit ?_
  refine th_exit ?_
  refine th_exit ?_
  refine in_block ?_
  rw [← hr18 _ (Option.some.inj H).symm] at HX18
  exact hJ1 Aa20 cc21 l19 _ _ hs.kx hw HX18

/-! rivet/load.Regs: function 15 -/
noncomputable def load_Regs (a0 : Int) (a1 : Int) : Option Sapi_Regs := some ({ ({ (⟨(Vector.replicate 16 0), 0, false, false, false, false⟩ : Sapi_Regs) with R := vset ((⟨(Vector.replicate 16 0), 0, false, false, false, false⟩ : Sapi_Regs).R) 13 (wu32 a0) } : Sapi_Regs) with R := vset (vset ((⟨(Vector.replicate 16 0), 0, false, false, false, false⟩ : Sapi_Regs).R) 13 (wu32 a0)) 14 (wu32 (w64 (4 * a1))) } : Sapi_Regs)
set_option maxRecDepth 100000 in
set_option maxHeartbeats 4000000 in
theorem load_Regs.calls (a0 : Int) (a1 : Int) (r : Sapi_Regs) (w0 : World) (H : load_Regs a0 a1 = some r) :
    Calls Tryd.prog 15 #[.int .i64 a0, .int .i64 a1] w0 fun e w' => e = .returned (.agg (eSapi_Regs.enc r).toArray) ∧ St [] w0 w' [] := by
 have hw : St [] w0 w0 [] := St.nil w0
 unfold load_Regs at H
 refine go_fn Tryd.func15 rfl Tryd.ntmps15 ?_; intro a hs
 refine go_sk fun K1 hK1 => ?_
 obtain ⟨ad2, wd3, hx4, hw⟩ := x_alloc1 (P := Tryd.prog) (elem := 50) (ty := 0) (z := .agg (eSapi_Regs.enc (⟨(Vector.replicate 16 0), 0, false, false, false, false⟩ : Sapi_Regs)).toArray) hs hw eSapi_Regs (⟨(Vector.replicate 16 0), 0, false, false, false, false⟩ : Sapi_Regs) (by kernel_rfl) (by kernel_rfl)
 refine go_run hs (by rfl) hx4 [] ?_; clear hs; intro a hs
 refine go_end (hK1 _ _ ?_)
 refine go_sk fun K6 hK6 => ?_
 obtain ⟨ad7, wd8, hx9, hw⟩ := x_alloc1 (P := Tryd.prog) (elem := 50) (ty := 0) (z := .agg (eSapi_Regs.enc (⟨(Vector.replicate 16 0), 0, false, false, false, false⟩ : Sapi_Regs)).toArray) hs hw eSapi_Regs (⟨(Vector.replicate 16 0), 0, false, false, false, false⟩ : Sapi_Regs) (by kernel_rfl) (by kernel_rfl)
 refine go_run hs (by rfl) hx9 [] ?_; clear hs; intro a hs
 refine go_end (hK6 _ _ ?_)
 refine go_sk fun K11 hK11 => ?_
 refine go_pvs 6 [0, 1] [(7, .int .u32 (wu32 a0)), (10, .int .u32 (wu32 (w64 (4 * a1)))), (11, .pointer (some ((ad7 : Addr).add 0)))] hs ?_; clear hs; intro a hs
 refine go_run hs (by rfl) (x_vidx (e := 38) (p := (ad7 : Addr).add 0) (n := 16) (k := .i64) (i := 13) (sz := 1) (⟨by decide, by decide⟩ : (0 : Int) ≤ 13 ∧ (13 : Int) < ((16 : Nat) : Int))) [11] ?_; clear hs; intro a hs
 obtain ⟨wd12, hx13, hw⟩ := x_put (P := Tryd.prog) (ty := 0) (t := 38) (x := (Operand.tmp 12)) (y := (Operand.tmp 7)) (off := 0 + 13 * 1) (p := ((ad7 : Addr).add 0 : Addr).add ((13 : Int).toNat * 1)) (v := .int .u32 (wu32 a0)) (vs := [.int .u32 (wu32 a0)]) (i := 0) (e' := (({ (⟨(Vector.replicate 16 0), 0, false, false, false, false⟩ : Sapi_Regs) with R := vset ((⟨(Vector.replicate 16 0), 0, false, false, false, false⟩ : Sapi_Regs).R) 13 (wu32 a0) } : Sapi_Regs) : Sapi_Regs)) hs hw rfl (one_ok (⟨(Vector.replicate 16 0), 0, false, false, false, false⟩ : Sapi_Regs)).1 (one_ok (⟨(Vector.replicate 16 0), 0, false, false, false, false⟩ : Sapi_Regs)).2 (by kernel_rfl) (by simp only [add_add', Int.toNat_zero, Nat.zero_mul, Nat.zero_add, Nat.mul_one] <;> rfl) (by kernel_rfl) rfl (by kernel_rfl) (by have := (⟨by decide, by decide⟩ : (0 : Int) ≤ 13 ∧ (13 : Int) < ((16 : Nat) : Int)); show 0 + _ * 1 + 1 ≤ 21; omega) (by simp [Value.oneCell']) (vput (cs := eSapi_Regs.enc (⟨(Vector.replicate 16 0), 0, false, false, false, false⟩ : Sapi_Regs)) (cs' := eSapi_Regs.enc ({ (⟨(Vector.replicate 16 0), 0, false, false, false, false⟩ : Sapi_Regs) with R := vset ((⟨(Vector.replicate 16 0), 0, false, false, false, false⟩ : Sapi_Regs).R) 13 (wu32 a0) } : Sapi_Regs)) (pre := []) (post := [.int .u32 ((⟨(Vector.replicate 16 0), 0, false, false, false, false⟩ : Sapi_Regs).H), .bool ((⟨(Vector.replicate 16 0), 0, false, false, false, false⟩ : Sapi_Regs).N), .bool ((⟨(Vector.replicate 16 0), 0, false, false, false, false⟩ : Sapi_Regs).Z), .bool ((⟨(Vector.replicate 16 0), 0, false, false, false, false⟩ : Sapi_Regs).C), .bool ((⟨(Vector.replicate 16 0), 0, false, false, false, false⟩ : Sapi_Regs).V)]) (f := (fun j : Nat => .int .u32 (vx 0 ((⟨(Vector.replicate 16 0), 0, false, false, false, false⟩ : Sapi_Regs).R) j))) (f' := (fun j : Nat => .int .u32 (vx 0 (vset ((⟨(Vector.replicate 16 0), 0, false, false, false, false⟩ : Sapi_Regs).R) 13 (wu32 a0)) j))) (n := 16) (o := 0) (i := 13) (v := .int .u32 (wu32 a0)) (by kernel_rfl) (by kernel_rfl) rfl (by have := (⟨by decide, by decide⟩ : (0 : Int) ≤ 13 ∧ (13 : Int) < ((16 : Nat) : Int)); omega) (vx_put (by have := (⟨by decide, by decide⟩ : (0 : Int) ≤ 13 ∧ (13 : Int) < ((16 : Nat) : Int)); omega)))
 refine go_unit hs (by rfl) hx13 [7, 12] ?_; clear hs; intro a hs
 replace hw : St [] w0 wd12 [own 50 eSapi_Regs (some ad7) 1 [({ (⟨(Vector.replicate 16 0), 0, false, false, false, false⟩ : Sapi_Regs) with R := vset ((⟨(Vector.replicate 16 0), 0, false, false, false, false⟩ : Sapi_Regs).R) 13 (wu32 a0) } : Sapi_Regs)], own 50 eSapi_Regs (some ad2) 1 [(⟨(Vector.replicate 16 0), 0, false, false, false, false⟩ : Sapi_Regs)]] := hw
 refine go_pvs 9 [] [(13, .pointer (some ((ad7 : Addr).add 0)))] hs ?_; clear hs; intro a hs
 refine go_run hs (by rfl) (x_vidx (e := 38) (p := (ad7 : Addr).add 0) (n := 16) (k := .i64) (i := 14) (sz := 1) (⟨by decide, by decide⟩ : (0 : Int) ≤ 14 ∧ (14 : Int) < ((16 : Nat) : Int))) [13] ?_; clear hs; intro a hs
 obtain ⟨wd14, hx15, hw⟩ := x_put (P := Tryd.prog) (ty := 0) (t := 38) (x := (Operand.tmp 14)) (y := (Operand.tmp 10)) (off := 0 + 14 * 1) (p := ((ad7 : Addr).add 0 : Addr).add ((14 : Int).toNat * 1)) (v := .int .u32 (wu32 (w64 (4 * a1)))) (vs := [.int .u32 (wu32 (w64 (4 * a1)))]) (i := 0) (e' := (({ ({ (⟨(Vector.replicate 16 0), 0, false, false, false, false⟩ : Sapi_Regs) with R := vset ((⟨(Vector.replicate 16 0), 0, false, false, false, false⟩ : Sapi_Regs).R) 13 (wu32 a0) } : Sapi_Regs) with R := vset (vset ((⟨(Vector.replicate 16 0), 0, false, false, false, false⟩ : Sapi_Regs).R) 13 (wu32 a0)) 14 (wu32 (w64 (4 * a1))) } : Sapi_Regs) : Sapi_Regs)) hs hw rfl (one_ok ({ (⟨(Vector.replicate 16 0), 0, false, false, false, false⟩ : Sapi_Regs) with R := vset ((⟨(Vector.replicate 16 0), 0, false, false, false, false⟩ : Sapi_Regs).R) 13 (wu32 a0) } : Sapi_Regs)).1 (one_ok ({ (⟨(Vector.replicate 16 0), 0, false, false, false, false⟩ : Sapi_Regs) with R := vset ((⟨(Vector.replicate 16 0), 0, false, false, false, false⟩ : Sapi_Regs).R) 13 (wu32 a0) } : Sapi_Regs)).2 (by kernel_rfl) (by simp only [add_add', Int.toNat_zero, Nat.zero_mul, Nat.zero_add, Nat.mul_one] <;> rfl) (by kernel_rfl) rfl (by kernel_rfl) (by have := (⟨by decide, by decide⟩ : (0 : Int) ≤ 14 ∧ (14 : Int) < ((16 : Nat) : Int)); show 0 + _ * 1 + 1 ≤ 21; omega) (by simp [Value.oneCell']) (vput (cs := eSapi_Regs.enc ({ (⟨(Vector.replicate 16 0), 0, false, false, false, false⟩ : Sapi_Regs) with R := vset ((⟨(Vector.replicate 16 0), 0, false, false, false, false⟩ : Sapi_Regs).R) 13 (wu32 a0) } : Sapi_Regs)) (cs' := eSapi_Regs.enc ({ ({ (⟨(Vector.replicate 16 0), 0, false, false, false, false⟩ : Sapi_Regs) with R := vset ((⟨(Vector.replicate 16 0), 0, false, false, false, false⟩ : Sapi_Regs).R) 13 (wu32 a0) } : Sapi_Regs) with R := vset (vset ((⟨(Vector.replicate 16 0), 0, false, false, false, false⟩ : Sapi_Regs).R) 13 (wu32 a0)) 14 (wu32 (w64 (4 * a1))) } : Sapi_Regs)) (pre := []) (post := [.int .u32 ((⟨(Vector.replicate 16 0), 0, false, false, false, false⟩ : Sapi_Regs).H), .bool ((⟨(Vector.replicate 16 0), 0, false, false, false, false⟩ : Sapi_Regs).N), .bool ((⟨(Vector.replicate 16 0), 0, false, false, false, false⟩ : Sapi_Regs).Z), .bool ((⟨(Vector.replicate 16 0), 0, false, false, false, false⟩ : Sapi_Regs).C), .bool ((⟨(Vector.replicate 16 0), 0, false, false, false, false⟩ : Sapi_Regs).V)]) (f := (fun j : Nat => .int .u32 (vx 0 (vset ((⟨(Vector.replicate 16 0), 0, false, false, false, false⟩ : Sapi_Regs).R) 13 (wu32 a0)) j))) (f' := (fun j : Nat => .int .u32 (vx 0 (vset (vset ((⟨(Vector.replicate 16 0), 0, false, false, false, false⟩ : Sapi_Regs).R) 13 (wu32 a0)) 14 (wu32 (w64 (4 * a1)))) j))) (n := 16) (o := 0) (i := 14) (v := .int .u32 (wu32 (w64 (4 * a1)))) (by kernel_rfl) (by kernel_rfl) rfl (by have := (⟨by decide, by decide⟩ : (0 : Int) ≤ 14 ∧ (14 : Int) < ((16 : Nat) : Int)); omega) (vx_put (by have := (⟨by decide, by decide⟩ : (0 : Int) ≤ 14 ∧ (14 : Int) < ((16 : Nat) : Int)); omega)))
 refine go_unit hs (by rfl) hx15 [10, 14] ?_; clear hs; intro a hs
 replace hw : St [] w0 wd14 [own 50 eSapi_Regs (some ad7) 1 [({ ({ (⟨(Vector.replicate 16 0), 0, false, false, false, false⟩ : Sapi_Regs) with R := vset ((⟨(Vector.replicate 16 0), 0, false, false, false, false⟩ : Sapi_Regs).R) 13 (wu32 a0) } : Sapi_Regs) with R := vset (vset ((⟨(Vector.replicate 16 0), 0, false, false, false, false⟩ : Sapi_Regs).R) 13 (wu32 a0)) 14 (wu32 (w64 (4 * a1))) } : Sapi_Regs)], own 50 eSapi_Regs (some ad2) 1 [(⟨(Vector.replicate 16 0), 0, false, false, false, false⟩ : Sapi_Regs)]] := hw
 refine go_end (hK11 _ _ ?_)
 refine go_sk fun K16 hK16 => ?_
 refine go_run hs (by rfl) (x_lds (off := 0) (p := ad7) (cs := (eSapi_Regs.enc ({ ({ (⟨(Vector.replicate 16 0), 0, false, false, false, false⟩ : Sapi_Regs) with R := vset ((⟨(Vector.replicate 16 0), 0, false, false, false, false⟩ : Sapi_Regs).R) 13 (wu32 a0) } : Sapi_Regs) with R := vset (vset ((⟨(Vector.replicate 16 0), 0, false, false, false, false⟩ : Sapi_Regs).R) 13 (wu32 a0)) 14 (wu32 (w64 (4 * a1))) } : Sapi_Regs))) (Rd.of_own (hw.up 0)) (one_ok ({ ({ (⟨(Vector.replicate 16 0), 0, false, false, false, false⟩ : Sapi_Regs) with R := vset ((⟨(Vector.replicate 16 0), 0, false, false, false, false⟩ : Sapi_Regs).R) 13 (wu32 a0) } : Sapi_Regs) with R := vset (vset ((⟨(Vector.replicate 16 0), 0, false, false, false, false⟩ : Sapi_Regs).R) 13 (wu32 a0)) 14 (wu32 (w64 (4 * a1))) } : Sapi_Regs)) (one_at _ _)) [5] ?_; clear hs; intro a hs
 replace hw := hw.up 1
 obtain ⟨wd17, hx18, hw⟩ := x_put (P := Tryd.prog) (ty := 0) (t := 50) (x := (Operand.tmp 4)) (y := (Operand.tmp 15)) (off := 0) (p := ad2) (v := .agg (eSapi_Regs.enc ({ ({ (⟨(Vector.replicate 16 0), 0, false, false, false, false⟩ : Sapi_Regs) with R := vset ((⟨(Vector.replicate 16 0), 0, false, false, false, false⟩ : Sapi_Regs).R) 13 (wu32 a0) } : Sapi_Regs) with R := vset (vset ((⟨(Vector.replicate 16 0), 0, false, false, false, false⟩ : Sapi_Regs).R) 13 (wu32 a0)) 14 (wu32 (w64 (4 * a1))) } : Sapi_Regs)).toArray) (vs := (eSapi_Regs.enc ({ ({ (⟨(Vector.replicate 16 0), 0, false, false, false, false⟩ : Sapi_Regs) with R := vset ((⟨(Vector.replicate 16 0), 0, false, false, false, false⟩ : Sapi_Regs).R) 13 (wu32 a0) } : Sapi_Regs) with R := vset (vset ((⟨(Vector.replicate 16 0), 0, false, false, false, false⟩ : Sapi_Regs).R) 13 (wu32 a0)) 14 (wu32 (w64 (4 * a1))) } : Sapi_Regs))) (i := 0) (e' := (({ ({ (⟨(Vector.replicate 16 0), 0, false, false, false, false⟩ : Sapi_Regs) with R := vset ((⟨(Vector.replicate 16 0), 0, false, false, false, false⟩ : Sapi_Regs).R) 13 (wu32 a0) } : Sapi_Regs) with R := vset (vset ((⟨(Vector.replicate 16 0), 0, false, false, false, false⟩ : Sapi_Regs).R) 13 (wu32 a0)) 14 (wu32 (w64 (4 * a1))) } : Sapi_Regs) : Sapi_Regs)) hs hw rfl (one_ok (⟨(Vector.replicate 16 0), 0, false, false, false, false⟩ : Sapi_Regs)).1 (one_ok (⟨(Vector.replicate 16 0), 0, false, false, false, false⟩ : Sapi_Regs)).2 (by kernel_rfl) (one_at _ _) (by kernel_rfl) rfl (by kernel_rfl) (Nat.le_of_ble_eq_true rfl) (eSapi_Regs.one _) (by kernel_rfl)
 refine go_unit hs (by rfl) hx18 [15] ?_; clear hs; intro a hs
 replace hw : St [] w0 wd17 [own 50 eSapi_Regs (some ad2) 1 [({ ({ (⟨(Vector.replicate 16 0), 0, false, false, false, false⟩ : Sapi_Regs) with R := vset ((⟨(Vector.replicate 16 0), 0, false, false, false, false⟩ : Sapi_Regs).R) 13 (wu32 a0) } : Sapi_Regs) with R := vset (vset ((⟨(Vector.replicate 16 0), 0, false, false, false, false⟩ : Sapi_Regs).R) 13 (wu32 a0)) 14 (wu32 (w64 (4 * a1))) } : Sapi_Regs)], own 50 eSapi_Regs (some ad7) 1 [({ ({ (⟨(Vector.replicate 16 0), 0, false, false, false, false⟩ : Sapi_Regs) with R := vset ((⟨(Vector.replicate 16 0), 0, false, false, false, false⟩ : Sapi_Regs).R) 13 (wu32 a0) } : Sapi_Regs) with R := vset (vset ((⟨(Vector.replicate 16 0), 0, false, false, false, false⟩ : Sapi_Regs).R) 13 (wu32 a0)) 14 (wu32 (w64 (4 * a1))) } : Sapi_Regs)]] := hw
 refine go_end (hK16 _ _ ?_)
 refine wp_ret ?_
 obtain rfl := Option.some.inj H
 replace hs : Slots a 16 [(4, .pointer (some ad2))] := hs.kx
 refine ret1g (L := [(4, .pointer (some ad2))]) (r1 := .cell 4 50) (v1 := .agg (eSapi_Regs.enc ({ ({ (⟨(Vector.replicate 16 0), 0, false, false, false, false⟩ : Sapi_Regs) with R := vset ((⟨(Vector.replicate 16 0), 0, false, false, false, false⟩ : Sapi_Regs).R) 13 (wu32 a0) } : Sapi_Regs) with R := vset (vset ((⟨(Vector.replicate 16 0), 0, false, false, false, false⟩ : Sapi_Regs).R) 13 (wu32 a0)) 14 (wu32 (w64 (4 * a1))) } : Sapi_Regs)).toArray) hs (by kernel_rfl) ⟨_, (show lk 4 [(4, .pointer (some ad2))] = some (.pointer (some ad2)) by kernel_rfl), lv_row (E := eSapi_Regs) (x := ({ ({ (⟨(Vector.replicate 16 0), 0, false, false, false, false⟩ : Sapi_Regs) with R := vset ((⟨(Vector.replicate 16 0), 0, false, false, false, false⟩ : Sapi_Regs).R) 13 (wu32 a0) } : Sapi_Regs) with R := vset (vset ((⟨(Vector.replicate 16 0), 0, false, false, false, false⟩ : Sapi_Regs).R) 13 (wu32 a0)) 14 (wu32 (w64 (4 * a1))) } : Sapi_Regs)) (by kernel_rfl) (by kernel_rfl) (Rd.of_own (hw.up 0))⟩ ?_
 exact ⟨rfl, hw.only 0⟩

/-! rivet/rivetref12.Regs: function 16 -/
noncomputable def rivetref12_Regs (a0 : Int) (a1 : Int) : Option Sapi_Regs := some ({ ({ (⟨(Vector.replicate 16 0), 0, false, false, false, false⟩ : Sapi_Regs) with R := vset (Vector.replicate 16 0) 13 (wu32 a0) } : Sapi_Regs) with R := vset (vset (Vector.replicate 16 0) 13 (wu32 a0)) 14 (wu32 (w64 (4 * a1))) } : Sapi_Regs)
set_option maxRecDepth 100000 in
set_option maxHeartbeats 4000000 in
theorem rivetref12_Regs.calls (a0 : Int) (a1 : Int) (r : Sapi_Regs) (w0 : World) (H : rivetref12_Regs a0 a1 = some r) :
    Calls Tryd.prog 16 #[.int .i64 a0, .int .i64 a1] w0 fun e w' => e = .returned (.agg (eSapi_Regs.enc r).toArray) ∧ St [] w0 w' [] := by
 have hw : St [] w0 w0 [] := St.nil w0
 unfold rivetref12_Regs at H
 refine go_fn Tryd.func16 rfl Tryd.ntmps16 ?_; intro a hs
 refine go_sk fun K1 hK1 => ?_
 obtain ⟨ad2, wd3, hx4, hw⟩ := x_alloc1 (P := Tryd.prog) (elem := 50) (ty := 0) (z := .agg (eSapi_Regs.enc (⟨(Vector.replicate 16 0), 0, false, false, false, false⟩ : Sapi_Regs)).toArray) hs hw eSapi_Regs (⟨(Vector.replicate 16 0), 0, false, false, false, false⟩ : Sapi_Regs) (by kernel_rfl) (by kernel_rfl)
 refine go_run hs (by rfl) hx4 [] ?_; clear hs; intro a hs
 refine go_end (hK1 _ _ ?_)
 refine go_sk fun K6 hK6 => ?_
 refine go_pvs 1 [] [(6, .agg (eSapi_Regs.enc (⟨(Vector.replicate 16 0), 0, false, false, false, false⟩ : Sapi_Regs)).toArray)] hs ?_; clear hs; intro a hs
 obtain ⟨ad7, wd8, hx9, hw⟩ := x_alloc1 (P := Tryd.prog) (elem := 50) (ty := 0) (z := .agg (eSapi_Regs.enc (⟨(Vector.replicate 16 0), 0, false, false, false, false⟩ : Sapi_Regs)).toArray) hs hw eSapi_Regs (⟨(Vector.replicate 16 0), 0, false, false, false, false⟩ : Sapi_Regs) (by kernel_rfl) (by kernel_rfl)
 refine go_run hs (by rfl) hx9 [] ?_; clear hs; intro a hs
 obtain ⟨wd11, hx12, hw⟩ := x_put (P := Tryd.prog) (ty := 0) (t := 50) (x := (Operand.tmp 5)) (y := (Operand.tmp 6)) (off := 0) (p := ad7) (v := .agg (eSapi_Regs.enc (⟨(Vector.replicate 16 0), 0, false, false, false, false⟩ : Sapi_Regs)).toArray) (vs := (eSapi_Regs.enc (⟨(Vector.replicate 16 0), 0, false, false, false, false⟩ : Sapi_Regs))) (i := 0) (e' := ((⟨(Vector.replicate 16 0), 0, false, false, false, false⟩ : Sapi_Regs) : Sapi_Regs)) hs hw rfl (one_ok (⟨(Vector.replicate 16 0), 0, false, false, false, false⟩ : Sapi_Regs)).1 (one_ok (⟨(Vector.replicate 16 0), 0, false, false, false, false⟩ : Sapi_Regs)).2 (by kernel_rfl) (one_at _ _) (by kernel_rfl) rfl (by kernel_rfl) (Nat.le_of_ble_eq_true rfl) (eSapi_Regs.one _) (by kernel_rfl)
 refine go_unit hs (by rfl) hx12 [6] ?_; clear hs; intro a hs
 replace hw : St [] w0 wd11 [own 50 eSapi_Regs (some ad7) 1 [(⟨(Vector.replicate 16 0), 0, false, false, false, false⟩ : Sapi_Regs)], own 50 eSapi_Regs (some ad2) 1 [(⟨(Vector.replicate 16 0), 0, false, false, false, false⟩ : Sapi_Regs)]] := hw
 refine go_end (hK6 _ _ ?_)
 refine go_sk fun K13 hK13 => ?_
 refine go_pvs 3 [0] [(8, .int .u32 (wu32 a0)), (9, .pointer (some ((ad7 : Addr).add 0)))] hs ?_; clear hs; intro a hs
 refine go_run hs (by rfl) (x_vidx (e := 38) (p := (ad7 : Addr).add 0) (n := 16) (k := .i64) (i := 13) (sz := 1) (⟨by decide, by decide⟩ : (0 : Int) ≤ 13 ∧ (13 : Int) < ((16 : Nat) : Int))) [9] ?_; clear hs; intro a hs
 obtain ⟨wd14, hx15, hw⟩ := x_put (P := Tryd.prog) (ty := 0) (t := 38) (x := (Operand.tmp 10)) (y := (Operand.tmp 8)) (off := 0 + 13 * 1) (p := ((ad7 : Addr).add 0 : Addr).add ((13 : Int).toNat * 1)) (v := .int .u32 (wu32 a0)) (vs := [.int .u32 (wu32 a0)]) (i := 0) (e' := (({ (⟨(Vector.replicate 16 0), 0, false, false, false, false⟩ : Sapi_Regs) with R := vset (Vector.replicate 16 0) 13 (wu32 a0) } : Sapi_Regs) : Sapi_Regs)) hs hw rfl (one_ok (⟨(Vector.replicate 16 0), 0, false, false, false, false⟩ : Sapi_Regs)).1 (one_ok (⟨(Vector.replicate 16 0), 0, false, false, false, false⟩ : Sapi_Regs)).2 (by kernel_rfl) (by simp only [add_add', Int.toNat_zero, Nat.zero_mul, Nat.zero_add, Nat.mul_one] <;> rfl) (by kernel_rfl) rfl (by kernel_rfl) (by have := (⟨by decide, by decide⟩ : (0 : Int) ≤ 13 ∧ (13 : Int) < ((16 : Nat) : Int)); show 0 + _ * 1 + 1 ≤ 21; omega) (by simp [Value.oneCell']) (vput (cs := eSapi_Regs.enc (⟨(Vector.replicate 16 0), 0, false, false, false, false⟩ : Sapi_Regs)) (cs' := eSapi_Regs.enc ({ (⟨(Vector.replicate 16 0), 0, false, false, false, false⟩ : Sapi_Regs) with R := vset (Vector.replicate 16 0) 13 (wu32 a0) } : Sapi_Regs)) (pre := []) (post := [.int .u32 0, .bool false, .bool false, .bool false, .bool false]) (f := (fun j : Nat => .int .u32 (vx 0 (Vector.replicate 16 0) j))) (f' := (fun j : Nat => .int .u32 (vx 0 (vset (Vector.replicate 16 0) 13 (wu32 a0)) j))) (n := 16) (o := 0) (i := 13) (v := .int .u32 (wu32 a0)) (by kernel_rfl) (by kernel_rfl) rfl (by have := (⟨by decide, by decide⟩ : (0 : Int) ≤ 13 ∧ (13 : Int) < ((16 : Nat) : Int)); omega) (vx_put (by have := (⟨by decide, by decide⟩ : (0 : Int) ≤ 13 ∧ (13 : Int) < ((16 : Nat) : Int)); omega)))
 refine go_unit hs (by rfl) hx15 [8, 10] ?_; clear hs; intro a hs
 replace hw : St [] w0 wd14 [own 50 eSapi_Regs (some ad7) 1 [({ (⟨(Vector.replicate 16 0), 0, false, false, false, false⟩ : Sapi_Regs) with R := vset (Vector.replicate 16 0) 13 (wu32 a0) } : Sapi_Regs)], own 50 eSapi_Regs (some ad2) 1 [(⟨(Vector.replicate 16 0), 0, false, false, false, false⟩ : Sapi_Regs)]] := hw
 refine go_end (hK13 _ _ ?_)
 refine go_sk fun K16 hK16 => ?_
 refine go_pvs 4 [1] [(13, .int .u32 (wu32 (w64 (4 * a1)))), (14, .pointer (some ((ad7 : Addr).add 0)))] hs ?_; clear hs; intro a hs
 refine go_run hs (by rfl) (x_vidx (e := 38) (p := (ad7 : Addr).add 0) (n := 16) (k := .i64) (i := 14) (sz := 1) (⟨by decide, by decide⟩ : (0 : Int) ≤ 14 ∧ (14 : Int) < ((16 : Nat) : Int))) [14] ?_; clear hs; intro a hs
 obtain ⟨wd17, hx18, hw⟩ := x_put (P := Tryd.prog) (ty := 0) (t := 38) (x := (Operand.tmp 15)) (y := (Operand.tmp 13)) (off := 0 + 14 * 1) (p := ((ad7 : Addr).add 0 : Addr).add ((14 : Int).toNat * 1)) (v := .int .u32 (wu32 (w64 (4 * a1)))) (vs := [.int .u32 (wu32 (w64 (4 * a1)))]) (i := 0) (e' := (({ ({ (⟨(Vector.replicate 16 0), 0, false, false, false, false⟩ : Sapi_Regs) with R := vset (Vector.replicate 16 0) 13 (wu32 a0) } : Sapi_Regs) with R := vset (vset (Vector.replicate 16 0) 13 (wu32 a0)) 14 (wu32 (w64 (4 * a1))) } : Sapi_Regs) : Sapi_Regs)) hs hw rfl (one_ok ({ (⟨(Vector.replicate 16 0), 0, false, false, false, false⟩ : Sapi_Regs) with R := vset (Vector.replicate 16 0) 13 (wu32 a0) } : Sapi_Regs)).1 (one_ok ({ (⟨(Vector.replicate 16 0), 0, false, false, false, false⟩ : Sapi_Regs) with R := vset (Vector.replicate 16 0) 13 (wu32 a0) } : Sapi_Regs)).2 (by kernel_rfl) (by simp only [add_add', Int.toNat_zero, Nat.zero_mul, Nat.zero_add, Nat.mul_one] <;> rfl) (by kernel_rfl) rfl (by kernel_rfl) (by have := (⟨by decide, by decide⟩ : (0 : Int) ≤ 14 ∧ (14 : Int) < ((16 : Nat) : Int)); show 0 + _ * 1 + 1 ≤ 21; omega) (by simp [Value.oneCell']) (vput (cs := eSapi_Regs.enc ({ (⟨(Vector.replicate 16 0), 0, false, false, false, false⟩ : Sapi_Regs) with R := vset (Vector.replicate 16 0) 13 (wu32 a0) } : Sapi_Regs)) (cs' := eSapi_Regs.enc ({ ({ (⟨(Vector.replicate 16 0), 0, false, false, false, false⟩ : Sapi_Regs) with R := vset (Vector.replicate 16 0) 13 (wu32 a0) } : Sapi_Regs) with R := vset (vset (Vector.replicate 16 0) 13 (wu32 a0)) 14 (wu32 (w64 (4 * a1))) } : Sapi_Regs)) (pre := []) (post := [.int .u32 0, .bool false, .bool false, .bool false, .bool false]) (f := (fun j : Nat => .int .u32 (vx 0 (vset (Vector.replicate 16 0) 13 (wu32 a0)) j))) (f' := (fun j : Nat => .int .u32 (vx 0 (vset (vset (Vector.replicate 16 0) 13 (wu32 a0)) 14 (wu32 (w64 (4 * a1)))) j))) (n := 16) (o := 0) (i := 14) (v := .int .u32 (wu32 (w64 (4 * a1)))) (by kernel_rfl) (by kernel_rfl) rfl (by have := (⟨by decide, by decide⟩ : (0 : Int) ≤ 14 ∧ (14 : Int) < ((16 : Nat) : Int)); omega) (vx_put (by have := (⟨by decide, by decide⟩ : (0 : Int) ≤ 14 ∧ (14 : Int) < ((16 : Nat) : Int)); omega)))
 refine go_unit hs (by rfl) hx18 [13, 15] ?_; clear hs; intro a hs
 replace hw : St [] w0 wd17 [own 50 eSapi_Regs (some ad7) 1 [({ ({ (⟨(Vector.replicate 16 0), 0, false, false, false, false⟩ : Sapi_Regs) with R := vset (Vector.replicate 16 0) 13 (wu32 a0) } : Sapi_Regs) with R := vset (vset (Vector.replicate 16 0) 13 (wu32 a0)) 14 (wu32 (w64 (4 * a1))) } : Sapi_Regs)], own 50 eSapi_Regs (some ad2) 1 [(⟨(Vector.replicate 16 0), 0, false, false, false, false⟩ : Sapi_Regs)]] := hw
 refine go_end (hK16 _ _ ?_)
 refine go_sk fun K19 hK19 => ?_
 refine go_run hs (by rfl) (x_lds (off := 0) (p := ad7) (cs := (eSapi_Regs.enc ({ ({ (⟨(Vector.replicate 16 0), 0, false, false, false, false⟩ : Sapi_Regs) with R := vset (Vector.replicate 16 0) 13 (wu32 a0) } : Sapi_Regs) with R := vset (vset (Vector.replicate 16 0) 13 (wu32 a0)) 14 (wu32 (w64 (4 * a1))) } : Sapi_Regs))) (Rd.of_own (hw.up 0)) (one_ok ({ ({ (⟨(Vector.replicate 16 0), 0, false, false, false, false⟩ : Sapi_Regs) with R := vset (Vector.replicate 16 0) 13 (wu32 a0) } : Sapi_Regs) with R := vset (vset (Vector.replicate 16 0) 13 (wu32 a0)) 14 (wu32 (w64 (4 * a1))) } : Sapi_Regs)) (one_at _ _)) [5] ?_; clear hs; intro a hs
 replace hw := hw.up 1
 obtain ⟨wd20, hx21, hw⟩ := x_put (P := Tryd.prog) (ty := 0) (t := 50) (x := (Operand.tmp 4)) (y := (Operand.tmp 16)) (off := 0) (p := ad2) (v := .agg (eSapi_Regs.enc ({ ({ (⟨(Vector.replicate 16 0), 0, false, false, false, false⟩ : Sapi_Regs) with R := vset (Vector.replicate 16 0) 13 (wu32 a0) } : Sapi_Regs) with R := vset (vset (Vector.replicate 16 0) 13 (wu32 a0)) 14 (wu32 (w64 (4 * a1))) } : Sapi_Regs)).toArray) (vs := (eSapi_Regs.enc ({ ({ (⟨(Vector.replicate 16 0), 0, false, false, false, false⟩ : Sapi_Regs) with R := vset (Vector.replicate 16 0) 13 (wu32 a0) } : Sapi_Regs) with R := vset (vset (Vector.replicate 16 0) 13 (wu32 a0)) 14 (wu32 (w64 (4 * a1))) } : Sapi_Regs))) (i := 0) (e' := (({ ({ (⟨(Vector.replicate 16 0), 0, false, false, false, false⟩ : Sapi_Regs) with R := vset (Vector.replicate 16 0) 13 (wu32 a0) } : Sapi_Regs) with R := vset (vset (Vector.replicate 16 0) 13 (wu32 a0)) 14 (wu32 (w64 (4 * a1))) } : Sapi_Regs) : Sapi_Regs)) hs hw rfl (one_ok (⟨(Vector.replicate 16 0), 0, false, false, false, false⟩ : Sapi_Regs)).1 (one_ok (⟨(Vector.replicate 16 0), 0, false, false, false, false⟩ : Sapi_Regs)).2 (by kernel_rfl) (one_at _ _) (by kernel_rfl) rfl (by kernel_rfl) (Nat.le_of_ble_eq_true rfl) (eSapi_Regs.one _) (by kernel_rfl)
 refine go_unit hs (by rfl) hx21 [16] ?_; clear hs; intro a hs
 replace hw : St [] w0 wd20 [own 50 eSapi_Regs (some ad2) 1 [({ ({ (⟨(Vector.replicate 16 0), 0, false, false, false, false⟩ : Sapi_Regs) with R := vset (Vector.replicate 16 0) 13 (wu32 a0) } : Sapi_Regs) with R := vset (vset (Vector.replicate 16 0) 13 (wu32 a0)) 14 (wu32 (w64 (4 * a1))) } : Sapi_Regs)], own 50 eSapi_Regs (some ad7) 1 [({ ({ (⟨(Vector.replicate 16 0), 0, false, false, false, false⟩ : Sapi_Regs) with R := vset (Vector.replicate 16 0) 13 (wu32 a0) } : Sapi_Regs) with R := vset (vset (Vector.replicate 16 0) 13 (wu32 a0)) 14 (wu32 (w64 (4 * a1))) } : Sapi_Regs)]] := hw
 refine go_end (hK19 _ _ ?_)
 refine wp_ret ?_
 obtain rfl := Option.some.inj H
 replace hs : Slots a 17 [(4, .pointer (some ad2))] := hs.kx
 refine ret1g (L := [(4, .pointer (some ad2))]) (r1 := .cell 4 50) (v1 := .agg (eSapi_Regs.enc ({ ({ (⟨(Vector.replicate 16 0), 0, false, false, false, false⟩ : Sapi_Regs) with R := vset (Vector.replicate 16 0) 13 (wu32 a0) } : Sapi_Regs) with R := vset (vset (Vector.replicate 16 0) 13 (wu32 a0)) 14 (wu32 (w64 (4 * a1))) } : Sapi_Regs)).toArray) hs (by kernel_rfl) ⟨_, (show lk 4 [(4, .pointer (some ad2))] = some (.pointer (some ad2)) by kernel_rfl), lv_row (E := eSapi_Regs) (x := ({ ({ (⟨(Vector.replicate 16 0), 0, false, false, false, false⟩ : Sapi_Regs) with R := vset (Vector.replicate 16 0) 13 (wu32 a0) } : Sapi_Regs) with R := vset (vset (Vector.replicate 16 0) 13 (wu32 a0)) 14 (wu32 (w64 (4 * a1))) } : Sapi_Regs)) (by kernel_rfl) (by kernel_rfl) (Rd.of_own (hw.up 0))⟩ ?_
 exact ⟨rfl, hw.only 0⟩

/-! rivet/load.Image: function 9 -/
noncomputable def load_Image.b40 (a0 : Sapi_Obj) (a1 : Int) (l41 : List Int) (v42 : Int) : Option ((List Int) × Int ⊕ (List Int)) := (if v42 < (a0.Sites.length : Int) then (if 0 ≤ v42 ∧ v42 < (a0.Sites.length : Int) then (nm (ix (eI .i64).d a0.Sites v42) fun y50 => (if 0 ≤ y50 ∧ y50 < (l41.length : Int) then (if 0 ≤ y50 ∧ y50 < (l41.length : Int) then some (.inl (l41.set (y50 : Int).toNat (wu32 ((ix (eI .u32).d l41 y50) + (wu32 a1))), w64 (v42 + 1))) else none) else none)) else none) else some (.inr l41))
noncomputable def load_Image.j3 (l57 : List Int) : Option ((List Int) × Int) := some (l57, 0)
noncomputable def load_Image.j2 (a0 : Sapi_Obj) (a1 : Int) : Option ((List Int) × Int) := (if 0 ≤ (a0.Words.length : Int) ∧ (a0.Words.length : Int) ≤ 70368744177664 then ((loopO (fun (σ : (List Int) × Int) => load_Image.b40 a0 a1 σ.1 σ.2) (lputw (List.replicate ((a0.Words.length : Int) : Int).toNat (eI .u32).d) a0.Words, 0)).bind fun e => load_Image.j3 e) else none)
noncomputable def load_Image.j1 (a0 : Sapi_Obj) (a1 : Int) (v22 : Bool) : Option ((List Int) × Int) := (if v22 = true then some (([] : List Int), 11) else load_Image.j2 a0 a1)
noncomputable def load_Image (a0 : Sapi_Obj) (a1 : Int) : Option ((List Int) × Int) := ((object_May a0).bind fun t9 => ((if t9 = 0 then (if a1 < 0 then load_Image.j1 a0 a1 true else (if a1 > 16384 then load_Image.j1 a0 a1 true else load_Image.j1 a0 a1 ((a1.tmod 4) != 0))) else some (([] : List Int), t9))))
set_option maxRecDepth 100000 in
set_option maxHeartbeats 4000000 in
theorem load_Image.calls (a0 : Sapi_Obj) (A0_1 : Option Addr) (c0_1 : Nat) (A0_2 : Option Addr) (c0_2 : Nat) (A0_3 : Option Addr) (c0_3 : Nat) (a1 : Int) (r : (List Int) × Int) (w0 : World) (hr0_1 : Rd w0 (eI .u32) A0_1 c0_1 a0.Words) (hr0_2 : Rd w0 (eI .i64) A0_2 c0_2 a0.Sites) (hr0_3 : Rd w0 eSapi_Sym A0_3 c0_3 a0.Syms) (H : load_Image a0 a1 = some r) :
    Calls Tryd.prog 9 #[.agg #[.slice A0_1 a0.Words.length c0_1, .slice A0_2 a0.Sites.length c0_2, .slice A0_3 a0.Syms.length c0_3], .int .i64 a1] w0 fun e w' => ∃ A_0 c_0, e = .returned (.tuple #[.slice A_0 r.1.length c_0, .int .i64 r.2]) ∧ St [] w0 w' [own 38 (eI .u32) A_0 c_0 r.1] := by
 have hw : St [] w0 w0 [] := St.nil w0
 unfold load_Image at H
 refine go_fn Tryd.func9 rfl Tryd.ntmps9 ?_; intro a hs
 refine go_sk fun K1 hK1 => ?_
 obtain ⟨g2, wd3, hx4, hw⟩ := x_boxc (P := Tryd.prog) (elem := 32) (v := (Operand.tmp 0)) (ty := 0) (cs := [.slice A0_1 a0.Words.length c0_1, .slice A0_2 a0.Sites.length c0_2, .slice A0_3 a0.Syms.length c0_3]) hs hw (by kernel_rfl)
 refine go_run hs (by rfl) hx4 [0] ?_; clear hs; intro a hs
 refine go_pvs 3 [] [] hs ?_; clear hs; intro a hs
 refine go_end (hK1 _ _ ?_)
 refine go_seq_k fun K6 hK6 => ?_
 refine go_sk fun K7 hK7 => ?_
 refine go_run hs (by rfl) (x_blds (g := g2) (o := 0) (p := (⟨g2, 0, none⟩ : Addr)) (vs := [.slice A0_1 a0.Words.length c0_1, .slice A0_2 a0.Sites.length c0_2, .slice A0_3 a0.Syms.length c0_3]) (hw.up 0)) [] ?_; clear hs; intro a hs
 obtain ⟨t9, hx10, H⟩ := bind_some H
 refine go_call hs (by rfl) (object_May.calls a0 A0_1 c0_1 A0_2 c0_2 A0_3 c0_3 t9 _ (hr0_1.old hw) (hr0_2.old hw) (hr0_3.old hw) hx10) ?_
 rintro e wd11 ⟨rfl, hw12⟩
 refine ⟨_, rfl, ?_⟩
 replace hw := hw.call hw12
 clear hs; intro a hs; replace hs := hs.rms [10]
 refine go_pvs 3 [11] [(6, .int .i64 t9)] hs ?_; clear hs; intro a hs
 refine go_end (hK7 _ _ ?_)
 refine go_sp [] [(13, .bool (t9 != 0))] hs ?_; clear hs; intro a hs
 refine go_cond hs (t9 != 0) (fun hc => ?_) fun hc => ?_
 ·replace H := ite_f H (bne_iff_ne.1 hc)
  have hb14 := hc
  rw [hb14] at hs
  refine go_sp [1, 2, 6, 13] [(4, .slice none 0 0), (5, .int .i64 t9)] hs ?_; clear hs; intro a hs
  refine wp_ret ?_
  refine th_ret ?_
  obtain rfl := Option.some.inj H
  replace hw := St.own_nil hw 38 (eI .u32)
  refine ret2 (t1 := 4) (v1 := .slice none 0 0) (t2 := 5) (v2 := .int .i64 t9) hs (by kernel_rfl) (by kernel_rfl) (by kernel_rfl) ?_
  exact ⟨none, 0, rfl, hw.only 1⟩
 ·replace H := ite_t H (bne_eq_false_iff_eq.1 hc)
  have hb17 := hc
  rw [hb17] at hs
  refine wp_skip ?_
  refine hK6 _ _ ?_
  refine go_seq_k fun K18 hK18 => ?_
  have hJ2 : ∀ (a : Act) (w : World), Slots a 51 [(1, .int .i64 a1), (2, .pointer (some (⟨g2, 0, none⟩ : Addr)))] → St [] w0 w [box g2 32 [.slice A0_1 a0.Words.length c0_1, .slice A0_2 a0.Sites.length c0_2, .slice A0_3 a0.Syms.length c0_3]] → load_Image.j2 a0 a1 = some r → K18 a w := by
   intro a w hs hw H
   unfold load_Image.j2 at H
   refine hK18 _ _ ?_
   refine go_sk fun K27 hK27 => ?_
   refine go_pvs 1 [] [(26, .pointer (some (⟨g2, 0, none⟩ : Addr)))] hs ?_; clear hs; intro a hs
   refine go_run hs (by rfl) (x_bld (g := g2) (o := 0) (p := (⟨g2, 0, none⟩ : Addr)) (v := .slice A0_1 a0.Words.length c0_1) (hw.up 0)) [26] ?_; clear hs; intro a hs
   refine go_pvs 3 [27] [(28, .int .i64 (a0.Words.length : Int))] hs ?_; clear hs; intro a hs
   obtain ⟨hp28, H⟩ := ite_only H
   obtain ⟨Aa29, cc30, wd31, hx32, hw⟩ := n_make (P := Tryd.prog) (t := 22) (ty := 22) (T := 38) (x := (Operand.tmp 28)) (y := (Operand.tmp 28)) (E := (eI .u32)) (z := .int .u32 0) (bytes := 4) (n := (a0.Words.length : Int)) hs hw (by kernel_rfl) (by kernel_rfl) (by kernel_rfl) (by kernel_rfl) (by kernel_rfl) hp28.1 (by have := hp28.2; omega) (by have := hp28.2; omega)
   refine go_run hs (by rfl) hx32 [28] ?_; clear hs; intro a hs
   refine go_pvs 5 [29] [(7, .slice Aa29 (List.replicate ((a0.Words.length : Int) : Int).toNat (eI .u32).d).length cc30)] hs ?_; clear hs; intro a hs
   refine go_end (hK27 _ _ ?_)
   refine go_sk fun K34 hK34 => ?_
   refine go_pvs 2 [] [(30, .slice Aa29 (List.replicate ((a0.Words.length : Int) : Int).toNat (eI .u32).d).length cc30), (31, .pointer (some (⟨g2, 0, none⟩ : Addr)))] hs ?_; clear hs; intro a hs
   refine go_run hs (by rfl) (x_bld (g := g2) (o := 0) (p := (⟨g2, 0, none⟩ : Addr)) (v := .slice A0_1 a0.Words.length c0_1) (hw.up 1)) [31] ?_; clear hs; intro a hs
   have hsrc37 : Rd _ (eI .u32) A0_1 c0_1 a0.Words := (hr0_1.old hw)
   obtain ⟨wd35, hx36, hw⟩ := x_copyw (P := Tryd.prog) (dT := 22) (sT := 22) (e := 38) (y := (Operand.tmp 30)) (z := (Operand.tmp 32)) (ty := 3) (l2 := a0.Words) hs hw (by kernel_rfl) (by kernel_rfl) (by kernel_rfl) (by kernel_rfl) hsrc37
   refine go_run hs (by rfl) hx36 [30, 32, 33] ?_; clear hs; intro a hs
   replace hs : Slots a 51 [(1, .int .i64 a1), (2, .pointer (some (⟨g2, 0, none⟩ : Addr))), (7, .slice Aa29 (lputw (List.replicate ((a0.Words.length : Int) : Int).toNat (eI .u32).d) a0.Words).length cc30)] := by rw [show (lputw (List.replicate ((a0.Words.length : Int) : Int).toNat (eI .u32).d) a0.Words).length = (List.replicate ((a0.Words.length : Int) : Int).toNat (eI .u32).d).length from lputw_len]; exact hs.kx
   refine go_end (hK34 _ _ ?_)
   refine go_seq_k fun K38 hK38 => ?_
   refine go_sk fun K39 hK39 => ?_
   refine go_pvs 1 [2] [(34, .pointer (some (⟨g2, 1, none⟩ : Addr)))] hs ?_; clear hs; intro a hs
   refine go_run hs (by rfl) (x_bld (g := g2) (o := 1) (p := (⟨g2, 1, none⟩ : Addr)) (v := .slice A0_2 a0.Sites.length c0_2) (hw.up 1)) [34] ?_; clear hs; intro a hs
   refine go_pvs 4 [] [(36, .int .i64 (a0.Sites.length : Int)), (37, .int .i64 0)] hs ?_; clear hs; intro a hs
   refine go_end (hK39 _ _ ?_)
   refine wp_block ?_
   obtain ⟨e40, hl40, HX40⟩ := bind_some H
   have hJ3 : ∀ (l57 : List Int) (a : Act) (w : World), Slots a 51 [(7, .slice Aa29 l57.length cc30)] → St [] w0 w [own 38 (eI .u32) Aa29 cc30 l57, box g2 32 [.slice A0_1 a0.Words.length c0_1, .slice A0_2 a0.Sites.length c0_2, .slice A0_3 a0.Syms.length c0_3]] → load_Image.j3 l57 = some r → K38 a w := by
    intro l57 a w hs hw H
    unfold load_Image.j3 at H
    refine hK38 _ _ ?_
    refine go_sp [7] [(4, .slice Aa29 l57.length cc30), (5, .int .i64 0)] hs ?_; clear hs; intro a hs
    refine wp_ret ?_
    obtain rfl := Option.some.inj H
    refine ret2 (t1 := 4) (v1 := .slice Aa29 l57.length cc30) (t2 := 5) (v2 := .int .i64 0) hs (by kernel_rfl) (by kernel_rfl) (by kernel_rfl) ?_
    exact ⟨Aa29, cc30, rfl, hw.only 1⟩
   clear H
   refine go_loop (σ := (List Int) × Int) (fun σ a w => Slots a 51 [(1, .int .i64 a1), (7, .slice Aa29 σ.1.length cc30), (35, .slice A0_2 a0.Sites.length c0_2), (36, .int .i64 (a0.Sites.length : Int)), (37, .int .i64 σ.2)] ∧ St [] w0 w [own 38 (eI .u32) Aa29 cc30 σ.1, box g2 32 [.slice A0_1 a0.Words.length c0_1, .slice A0_2 a0.Sites.length c0_2, .slice A0_3 a0.Syms.length c0_3]]) hl40 (by exact ⟨hs.kx, hw⟩) ?_
   rintro ⟨l41, v42⟩ a w ⟨hs, hw⟩ o H hr40
   replace hs : Slots a 51 [(1, .int .i64 a1), (7, .slice Aa29 l41.length cc30), (35, .slice A0_2 a0.Sites.length c0_2), (36, .int .i64 (a0.Sites.length : Int)), (37, .int .i64 v42)] := hs
   replace hw : St [] w0 w [own 38 (eI .u32) Aa29 cc30 l41, box g2 32 [.slice A0_1 a0.Words.length c0_1, .slice A0_2 a0.Sites.length c0_2, .slice A0_3 a0.Syms.length c0_3]] := hw
   replace H : load_Image.b40 a0 a1 l41 v42 = some o := H
   unfold load_Image.b40 at H
   refine go_sp [] [(38, .bool (decide (v42 < (a0.Sites.length : Int))))] hs ?_; clear hs; intro a hs
   refine go_seq_k fun K44 hK44 => ?_
   refine go_cond hs (decide (v42 < (a0.Sites.length : Int))) (fun hc => ?_) fun hc => ?_
   ·replace H := ite_t H (of_decide_eq_true hc)
    have hb45 := hc
    rw [hb45] at hs
    refine wp_skip ?_
    refine hK44 _ _ ?_
    refine go_seq_k fun K46 hK46 => ?_
    refine wp_block ?_
    refine go_sk fun K47 hK47 => ?_
    obtain ⟨hp48, H⟩ := ite_only H
    obtain ⟨ad49, rfl⟩ := (hr0_2.old hw).some hp48.1 hp48.2
    refine go_run hs (by rfl) (x_idx (T := 3) (sz := 1) (a := ad49) (n := a0.Sites.length) (cap := c0_2) (k := .i64) (i := v42) hp48) [38] ?_; clear hs; intro a hs
    refine go_run hs (by rfl) (x_ld (off := 0) (p := ad49.add (v42.toNat * 1)) (v := .int .i64 (ix (eI .i64).d a0.Sites v42)) (hr0_2.old hw) hp48 rfl) [39] ?_; clear hs; intro a hs
    refine go_pvs 3 [40] [(9, .int .i64 (ix (eI .i64).d a0.Sites v42))] hs ?_; clear hs; intro a hs
    obtain ⟨y50, hy50, H⟩ := nm_some H
    replace hs : Slots a 51 [(1, .int .i64 a1), (7, .slice Aa29 l41.length cc30), (9, .int .i64 y50), (35, .slice (some ad49) a0.Sites.length c0_2), (36, .int .i64 (a0.Sites.length : Int)), (37, .int .i64 v42)] := by rw [hy50]; exact hs.kx
    refine go_end (hK47 _ _ ?_)
    refine go_region ?_
    refine go_pvs 2 [9] [(41, .slice Aa29 l41.length cc30), (42, .int .i64 y50)] hs ?_; clear hs; intro a hs
    obtain ⟨hp51, H⟩ := ite_only H
    obtain ⟨ad52, rfl⟩ := (Rd.of_own (hw.up 0)).some hp51.1 hp51.2
    refine go_run hs (by rfl) (x_idx (T := 38) (sz := 1) (a := ad52) (n := l41.length) (cap := cc30) (k := .i64) (i := y50) hp51) [] ?_; clear hs; intro a hs
    refine go_run hs (by rfl) (x_ld (off := 0) (p := ad52.add (y50.toNat * 1)) (v := .int .u32 (ix (eI .u32).d l41 y50)) (Rd.of_own (hw.up 0)) hp51 rfl) [43] ?_; clear hs; intro a hs
    refine go_pvs 7 [44] [(47, .int .u32 (wu32 ((ix (eI .u32).d l41 y50) + (wu32 a1))))] hs ?_; clear hs; intro a hs
    obtain ⟨hp53, H⟩ := ite_only H
    refine go_run hs (by rfl) (x_idx (T := 38) (sz := 1) (a := ad52) (n := l41.length) (cap := cc30) (k := .i64) (i := y50) hp53) [41, 42] ?_; clear hs; intro a hs
    obtain ⟨wd54, hx55, hw⟩ := x_put (P := Tryd.prog) (ty := 0) (t := 38) (x := (Operand.tmp 48)) (y := (Operand.tmp 47)) (off := 0) (p := ad52.add (y50.toNat * 1)) (v := .int .u32 (wu32 ((ix (eI .u32).d l41 y50) + (wu32 a1)))) (vs := [.int .u32 (wu32 ((ix (eI .u32).d l41 y50) + (wu32 a1)))]) (i := y50) (e' := (wu32 ((ix (eI .u32).d l41 y50) + (wu32 a1)) : Int)) hs hw rfl hp53.1 hp53.2 (by kernel_rfl) rfl (by kernel_rfl) rfl (by kernel_rfl) (Nat.le_of_ble_eq_true rfl) (by simp [Value.oneCell']) (by kernel_rfl)
    refine go_unit hs (by rfl) hx55 [47, 48] ?_; clear hs; intro a hs
    replace hs : Slots a 51 [(1, .int .i64 a1), (7, .slice (some ad52) (l41.set (y50 : Int).toNat (wu32 ((ix (eI .u32).d l41 y50) + (wu32 a1)))).length cc30), (35, .slice (some ad49) a0.Sites.length c0_2), (36, .int .i64 (a0.Sites.length : Int)), (37, .int .i64 v42)] := by rw [show (l41.set (y50 : Int).toNat (wu32 ((ix (eI .u32).d l41 y50) + (wu32 a1)))).length = (l41).length from List.length_set]; exact hs.kx
    refine go_end ?_
    refine ib_norm ?_
    refine hK46 _ _ ?_
    refine go_plain [] [(37, .int .i64 (w64 (v42 + 1)))] hs ?_; clear hs; intro a hs
    replace hw := hw.up 1
    replace hw := hw.up 1
    exact round_end (l41.set (y50 : Int).toNat (wu32 ((ix (eI .u32).d l41 y50) + (wu32 a1))), w64 (v42 + 1)) (Option.some.inj H).symm ⟨hs.kx, hw⟩
   ·replace H := ite_f H (of_decide_eq_false hc)
    have hb56 := hc
    rw [hb56] at hs
    refine wp_exit ?_
    refine th_exit ?_
    refine th_exit ?_
    refine in_block ?_
    replace hw := hw.up 1
    replace hw := hw.up 1
    rw [← hr40 _ (Option.some.inj H).symm] at HX40
    exact hJ3 l41 _ _ hs.kx hw HX40
  refine go_seq_k fun K19 hK19 => ?_
  have hJ1 : ∀ (v22 : Bool) (a : Act) (w : World), Slots a 51 [(1, .int .i64 a1), (2, .pointer (some (⟨g2, 0, none⟩ : Addr))), (25, .bool v22)] → St [] w0 w [box g2 32 [.slice A0_1 a0.Words.length c0_1, .slice A0_2 a0.Sites.length c0_2, .slice A0_3 a0.Syms.length c0_3]] → load_Image.j1 a0 a1 v22 = some r → K19 a w := by
   intro v22 a w hs hw H
   unfold load_Image.j1 at H
   refine hK19 _ _ ?_
   refine go_cond hs v22 (fun hc => ?_) fun hc => ?_
   ·replace H := ite_t H hc
    have hb23 := hc
    rw [hb23] at hs
    refine go_sp [1, 2, 25] [(4, .slice none 0 0), (5, .int .i64 11)] hs ?_; clear hs; intro a hs
    refine wp_ret ?_
    refine th_ret ?_
    obtain rfl := Option.some.inj H
    replace hw := St.own_nil hw 38 (eI .u32)
    refine ret2 (t1 := 4) (v1 := .slice none 0 0) (t2 := 5) (v2 := .int .i64 11) hs (by kernel_rfl) (by kernel_rfl) (by kernel_rfl) ?_
    exact ⟨none, 0, rfl, hw.only 1⟩
   ·replace H := ite_f H (ff hc)
    have hb26 := hc
    rw [hb26] at hs
    refine wp_skip ?_
    exact hJ2 _ _ hs.kx hw H
  refine go_region ?_
  refine go_pvs 3 [6, 13] [(17, .bool (decide (a1 < 0)))] hs ?_; clear hs; intro a hs
  cases hb20 : (decide (a1 < 0))
  ·replace H := ite_f H (of_decide_eq_false hb20)
   rw [hb20] at hs
   refine go_pvs 7 [17] [(21, .bool (decide (a1 > 16384)))] hs ?_; clear hs; intro a hs
   cases hb21 : (decide (a1 > 16384))
   ·replace H := ite_f H (of_decide_eq_false hb21)
    rw [hb21] at hs
    refine go_pvs 11 [21] [(25, .bool ((a1.tmod 4) != 0))] hs ?_; clear hs; intro a hs
    refine go_end ?_
    exact hJ1 ((a1.tmod 4) != 0) _ _ hs.kx hw H
   ·replace H := ite_t H (of_decide_eq_true hb21)
    rw [hb21] at hs
    refine go_pvs 11 [21] [(25, .bool true)] hs ?_; clear hs; intro a hs
    refine go_end ?_
    exact hJ1 true _ _ hs.kx hw H
  ·replace H := ite_t H (of_decide_eq_true hb20)
   rw [hb20] at hs
   refine go_pvs 11 [17] [(25, .bool true)] hs ?_; clear hs; intro a hs
   refine go_end ?_
   exact hJ1 true _ _ hs.kx hw H

/-! rivet/rivetref12.Image: function 13 -/
noncomputable def rivetref12_Image.b41 (a0 : Sapi_Obj) (a1 : Int) (l42 : List Int) (v43 : Int) : Option ((List Int) × Int ⊕ (List Int)) := (if v43 < (a0.Sites.length : Int) then (if 0 ≤ v43 ∧ v43 < (a0.Sites.length : Int) then (if 0 ≤ v43 ∧ v43 < (a0.Sites.length : Int) then (if 0 ≤ (ix (eI .i64).d a0.Sites v43) ∧ (ix (eI .i64).d a0.Sites v43) < (l42.length : Int) then (if 0 ≤ (ix (eI .i64).d a0.Sites v43) ∧ (ix (eI .i64).d a0.Sites v43) < (l42.length : Int) then some (.inl (l42.set ((ix (eI .i64).d a0.Sites v43) : Int).toNat (wu32 ((ix (eI .u32).d l42 (ix (eI .i64).d a0.Sites v43)) + (wu32 a1))), w64 (v43 + 1))) else none) else none) else none) else none) else some (.inr l42))
noncomputable def rivetref12_Image.j3 (l57 : List Int) : Option ((List Int) × Int) := some (l57, 0)
noncomputable def rivetref12_Image.j2 (a0 : Sapi_Obj) (a1 : Int) : Option ((List Int) × Int) := (if ([] : List Int).length + a0.Words.length ≤ 35184372088832 then ((loopO (fun (σ : (List Int) × Int) => rivetref12_Image.b41 a0 a1 σ.1 σ.2) (([] : List Int) ++ a0.Words, 0)).bind fun e => rivetref12_Image.j3 e) else none)
noncomputable def rivetref12_Image.j1 (a0 : Sapi_Obj) (a1 : Int) (v22 : Bool) : Option ((List Int) × Int) := (if v22 = true then some (([] : List Int), 11) else rivetref12_Image.j2 a0 a1)
noncomputable def rivetref12_Image (a0 : Sapi_Obj) (a1 : Int) : Option ((List Int) × Int) := ((rivetref09_May a0).bind fun t8 => ((if t8 = 0 then (if a1 < 0 then rivetref12_Image.j1 a0 a1 true else (if a1 > 16384 then rivetref12_Image.j1 a0 a1 true else rivetref12_Image.j1 a0 a1 ((a1.tmod 4) != 0))) else some (([] : List Int), t8))))
set_option maxRecDepth 100000 in
set_option maxHeartbeats 4000000 in
theorem rivetref12_Image.calls (a0 : Sapi_Obj) (A0_1 : Option Addr) (c0_1 : Nat) (A0_2 : Option Addr) (c0_2 : Nat) (A0_3 : Option Addr) (c0_3 : Nat) (a1 : Int) (r : (List Int) × Int) (w0 : World) (hr0_1 : Rd w0 (eI .u32) A0_1 c0_1 a0.Words) (hr0_2 : Rd w0 (eI .i64) A0_2 c0_2 a0.Sites) (hr0_3 : Rd w0 eSapi_Sym A0_3 c0_3 a0.Syms) (H : rivetref12_Image a0 a1 = some r) :
    Calls Tryd.prog 13 #[.agg #[.slice A0_1 a0.Words.length c0_1, .slice A0_2 a0.Sites.length c0_2, .slice A0_3 a0.Syms.length c0_3], .int .i64 a1] w0 fun e w' => ∃ A_0 c_0, e = .returned (.tuple #[.slice A_0 r.1.length c_0, .int .i64 r.2]) ∧ St [] w0 w' [own 38 (eI .u32) A_0 c_0 r.1] := by
 have hw : St [] w0 w0 [] := St.nil w0
 unfold rivetref12_Image at H
 refine go_fn Tryd.func13 rfl Tryd.ntmps13 ?_; intro a hs
 refine go_sk fun K1 hK1 => ?_
 obtain ⟨g2, wd3, hx4, hw⟩ := x_boxc (P := Tryd.prog) (elem := 32) (v := (Operand.tmp 0)) (ty := 0) (cs := [.slice A0_1 a0.Words.length c0_1, .slice A0_2 a0.Sites.length c0_2, .slice A0_3 a0.Syms.length c0_3]) hs hw (by kernel_rfl)
 refine go_run hs (by rfl) hx4 [0] ?_; clear hs; intro a hs
 refine go_pvs 3 [] [] hs ?_; clear hs; intro a hs
 refine go_end (hK1 _ _ ?_)
 refine go_sk fun K6 hK6 => ?_
 refine go_run hs (by rfl) (x_blds (g := g2) (o := 0) (p := (⟨g2, 0, none⟩ : Addr)) (vs := [.slice A0_1 a0.Words.length c0_1, .slice A0_2 a0.Sites.length c0_2, .slice A0_3 a0.Syms.length c0_3]) (hw.up 0)) [] ?_; clear hs; intro a hs
 obtain ⟨t8, hx9, H⟩ := bind_some H
 refine go_call hs (by rfl) (rivetref09_May.calls a0 A0_1 c0_1 A0_2 c0_2 A0_3 c0_3 t8 _ (hr0_1.old hw) (hr0_2.old hw) (hr0_3.old hw) hx9) ?_
 rintro e wd10 ⟨rfl, hw11⟩
 refine ⟨_, rfl, ?_⟩
 replace hw := hw.call hw11
 clear hs; intro a hs; replace hs := hs.rms [9]
 refine go_pvs 3 [10] [(6, .int .i64 t8)] hs ?_; clear hs; intro a hs
 refine go_end (hK6 _ _ ?_)
 refine go_seq_k fun K12 hK12 => ?_
 refine go_sp [] [(12, .bool (t8 != 0))] hs ?_; clear hs; intro a hs
 refine go_cond hs (t8 != 0) (fun hc => ?_) fun hc => ?_
 ·replace H := ite_f H (bne_iff_ne.1 hc)
  have hb14 := hc
  rw [hb14] at hs
  refine go_sp [1, 2, 6, 12] [(4, .slice none 0 0), (5, .int .i64 t8)] hs ?_; clear hs; intro a hs
  refine wp_ret ?_
  refine th_ret ?_
  obtain rfl := Option.some.inj H
  replace hw := St.own_nil hw 38 (eI .u32)
  refine ret2 (t1 := 4) (v1 := .slice none 0 0) (t2 := 5) (v2 := .int .i64 t8) hs (by kernel_rfl) (by kernel_rfl) (by kernel_rfl) ?_
  exact ⟨none, 0, rfl, hw.only 1⟩
 ·replace H := ite_t H (bne_eq_false_iff_eq.1 hc)
  have hb17 := hc
  rw [hb17] at hs
  refine wp_skip ?_
  refine hK12 _ _ ?_
  refine go_seq_k fun K18 hK18 => ?_
  have hJ2 : ∀ (a : Act) (w : World), Slots a 55 [(1, .int .i64 a1), (2, .pointer (some (⟨g2, 0, none⟩ : Addr)))] → St [] w0 w [box g2 32 [.slice A0_1 a0.Words.length c0_1, .slice A0_2 a0.Sites.length c0_2, .slice A0_3 a0.Syms.length c0_3]] → rivetref12_Image.j2 a0 a1 = some r → K18 a w := by
   intro a w hs hw H
   unfold rivetref12_Image.j2 at H
   refine hK18 _ _ ?_
   refine go_sk fun K27 hK27 => ?_
   obtain ⟨Aa28, cc29, wd30, hx31, hw⟩ := n_lit0 (P := Tryd.prog) (t := 22) (ty := 22) (T := 38) hs hw (eI .u32) (by kernel_rfl) (by kernel_rfl)
   refine go_run hs (by rfl) hx31 [] ?_; clear hs; intro a hs
   refine go_pvs 2 [] [(26, .pointer (some (⟨g2, 0, none⟩ : Addr)))] hs ?_; clear hs; intro a hs
   refine go_run hs (by rfl) (x_bld (g := g2) (o := 0) (p := (⟨g2, 0, none⟩ : Addr)) (v := .slice A0_1 a0.Words.length c0_1) (hw.up 1)) [26] ?_; clear hs; intro a hs
   obtain ⟨hp33, H⟩ := ite_only H
   have hsrc38 : Src Tryd.prog (eI .u32).sz 22 (.slice A0_1 a0.Words.length c0_1) a0.Words.length (a0.Words.flatMap (eI .u32).enc) _ := (Src.of_rd (E := (eI .u32)) (e' := 38) (by kernel_rfl) (hr0_1.old hw))
   obtain ⟨Aa34, cc35, wd36, hx37, hw⟩ := x_append (P := Tryd.prog) (t := 22) (tx := 22) (ty := 22) (x := (Operand.tmp 25)) (y := (Operand.tmp 27)) (z := .int .u32 0) (bytes := 4) (l2 := a0.Words) hs hw (by kernel_rfl) (by kernel_rfl) (by kernel_rfl) (by kernel_rfl) (by kernel_rfl) hsrc38 (by omega) (by omega)
   refine go_run hs (by rfl) hx37 [25, 27] ?_; clear hs; intro a hs
   refine go_pvs 5 [28] [(7, .slice Aa34 (([] : List Int) ++ a0.Words).length cc35)] hs ?_; clear hs; intro a hs
   refine go_end (hK27 _ _ ?_)
   refine go_seq_k fun K39 hK39 => ?_
   refine go_sp [] [(8, .int .i64 0)] hs ?_; clear hs; intro a hs
   refine wp_block ?_
   obtain ⟨e41, hl41, HX41⟩ := bind_some H
   have hJ3 : ∀ (l57 : List Int) (a : Act) (w : World), Slots a 55 [(7, .slice Aa34 l57.length cc35)] → St [] w0 w [own 38 (eI .u32) Aa34 cc35 l57, box g2 32 [.slice A0_1 a0.Words.length c0_1, .slice A0_2 a0.Sites.length c0_2, .slice A0_3 a0.Syms.length c0_3]] → rivetref12_Image.j3 l57 = some r → K39 a w := by
    intro l57 a w hs hw H
    unfold rivetref12_Image.j3 at H
    refine hK39 _ _ ?_
    refine go_sp [7] [(4, .slice Aa34 l57.length cc35), (5, .int .i64 0)] hs ?_; clear hs; intro a hs
    refine wp_ret ?_
    obtain rfl := Option.some.inj H
    refine ret2 (t1 := 4) (v1 := .slice Aa34 l57.length cc35) (t2 := 5) (v2 := .int .i64 0) hs (by kernel_rfl) (by kernel_rfl) (by kernel_rfl) ?_
    exact ⟨Aa34, cc35, rfl, hw.only 1⟩
   clear H
   refine go_loop (σ := (List Int) × Int) (fun σ a w => Slots a 55 [(1, .int .i64 a1), (2, .pointer (some (⟨g2, 0, none⟩ : Addr))), (7, .slice Aa34 σ.1.length cc35), (8, .int .i64 σ.2)] ∧ St [] w0 w [own 38 (eI .u32) Aa34 cc35 σ.1, box g2 32 [.slice A0_1 a0.Words.length c0_1, .slice A0_2 a0.Sites.length c0_2, .slice A0_3 a0.Syms.length c0_3]]) hl41 (by exact ⟨hs.kx, hw⟩) ?_
   rintro ⟨l42, v43⟩ a w ⟨hs, hw⟩ o H hr41
   replace hs : Slots a 55 [(1, .int .i64 a1), (2, .pointer (some (⟨g2, 0, none⟩ : Addr))), (7, .slice Aa34 l42.length cc35), (8, .int .i64 v43)] := hs
   replace hw : St [] w0 w [own 38 (eI .u32) Aa34 cc35 l42, box g2 32 [.slice A0_1 a0.Words.length c0_1, .slice A0_2 a0.Sites.length c0_2, .slice A0_3 a0.Syms.length c0_3]] := hw
   replace H : rivetref12_Image.b41 a0 a1 l42 v43 = some o := H
   unfold rivetref12_Image.b41 at H
   refine go_seq_k fun K44 hK44 => ?_
   refine go_sk fun K45 hK45 => ?_
   refine go_pvs 2 [] [(29, .int .i64 v43), (30, .pointer (some (⟨g2, 1, none⟩ : Addr)))] hs ?_; clear hs; intro a hs
   refine go_run hs (by rfl) (x_bld (g := g2) (o := 1) (p := (⟨g2, 1, none⟩ : Addr)) (v := .slice A0_2 a0.Sites.length c0_2) (hw.up 1)) [30] ?_; clear hs; intro a hs
   refine go_pvs 5 [29, 31] [(33, .bool (decide (v43 < (a0.Sites.length : Int))))] hs ?_; clear hs; intro a hs
   refine go_end (hK45 _ _ ?_)
   refine go_cond hs (decide (v43 < (a0.Sites.length : Int))) (fun hc => ?_) fun hc => ?_
   ·replace H := ite_t H (of_decide_eq_true hc)
    have hb46 := hc
    rw [hb46] at hs
    refine wp_skip ?_
    refine hK44 _ _ ?_
    refine go_seq_k fun K47 hK47 => ?_
    refine wp_block ?_
    refine d_region [18] [(true, [0, 1, 2, 3, 4, 5, 6, 7, 8, 9, 10, 11, 12, 13, 14, 15, 16, 17], 18)] [] (by kernel_rfl) (by kernel_rfl) (fun c a d v w h => by cases d <;> exact h) ?_
    refine d_seg ?_
    refine c_pvs [0, 1] [2, 3, 4, 5, 6, 7, 8, 9, 10, 11, 12, 13, 14, 15, 16, 17] [33] [(36, .slice Aa34 l42.length cc35), (37, .pointer (some (⟨g2, 1, none⟩ : Addr)))] hs ?_; clear hs; intro a hs
    refine d_run hs (by rfl) (fun wx hbx => (x_bldD (g := g2) (o := 1) (p := (⟨g2, 1, none⟩ : Addr)) (v := .slice A0_2 a0.Sites.length c0_2) (hw.up 1) hbx)) [37] ?_; clear hs; intro a hs
    refine c_pvs [3] [4, 5, 6, 7, 8, 9, 10, 11, 12, 13, 14, 15, 16, 17] [] [(39, .int .i64 v43)] hs ?_; clear hs; intro a hs
    obtain ⟨hp48, H⟩ := ite_only H
    obtain ⟨ad49, rfl⟩ := (hr0_2.old hw).some hp48.1 hp48.2
    refine d_run hs (by rfl) (fun wx hbx => (x_idx (T := 3) (sz := 1) (a := ad49) (n := a0.Sites.length) (cap := c0_2) (k := .i64) (i := v43) hp48)) [38, 39] ?_; clear hs; intro a hs
    refine d_run hs (by rfl) (fun wx hbx => (x_ld (off := 0) (p := ad49.add (v43.toNat * 1)) (v := .int .i64 (ix (eI .i64).d a0.Sites v43)) (Rd.bn (hr0_2.old hw) hbx) hp48 rfl)) [40] ?_; clear hs; intro a hs
    refine c_pvs [6, 7] [8, 9, 10, 11, 12, 13, 14, 15, 16, 17] [] [(42, .slice Aa34 l42.length cc35), (43, .pointer (some (⟨g2, 1, none⟩ : Addr)))] hs ?_; clear hs; intro a hs
    refine d_run hs (by rfl) (fun wx hbx => (x_bldD (g := g2) (o := 1) (p := (⟨g2, 1, none⟩ : Addr)) (v := .slice (some ad49) a0.Sites.length c0_2) (hw.up 1) hbx)) [43] ?_; clear hs; intro a hs
    refine c_pvs [9] [10, 11, 12, 13, 14, 15, 16, 17] [] [(45, .int .i64 v43)] hs ?_; clear hs; intro a hs
    obtain ⟨hp50, H⟩ := ite_only H
    refine d_run hs (by rfl) (fun wx hbx => (x_idx (T := 3) (sz := 1) (a := ad49) (n := a0.Sites.length) (cap := c0_2) (k := .i64) (i := v43) hp50)) [44, 45] ?_; clear hs; intro a hs
    refine d_run hs (by rfl) (fun wx hbx => (x_ld (off := 0) (p := ad49.add (v43.toNat * 1)) (v := .int .i64 (ix (eI .i64).d a0.Sites v43)) (Rd.bn (hr0_2.old hw) hbx) hp50 rfl)) [46] ?_; clear hs; intro a hs
    obtain ⟨hp51, H⟩ := ite_only H
    obtain ⟨ad52, rfl⟩ := (Rd.of_own (hw.up 0)).some hp51.1 hp51.2
    refine d_run hs (by rfl) (fun wx hbx => (x_idx (T := 38) (sz := 1) (a := ad52) (n := l42.length) (cap := cc35) (k := .i64) (i := (ix (eI .i64).d a0.Sites v43)) hp51)) [42, 47] ?_; clear hs; intro a hs
    refine d_run hs (by rfl) (fun wx hbx => (x_ld (off := 0) (p := ad52.add ((ix (eI .i64).d a0.Sites v43).toNat * 1)) (v := .int .u32 (ix (eI .u32).d l42 (ix (eI .i64).d a0.Sites v43))) (Rd.bn (Rd.of_own (hw.up 0)) hbx) hp51 rfl)) [48] ?_; clear hs; intro a hs
    refine c_pvs [14, 15, 16] [17] [49] [(52, .int .u32 (wu32 ((ix (eI .u32).d l42 (ix (eI .i64).d a0.Sites v43)) + (wu32 a1))))] hs ?_; clear hs; intro a hs
    obtain ⟨hp53, H⟩ := ite_only H
    refine d_run hs (by rfl) (fun wx hbx => (x_idx (T := 38) (sz := 1) (a := ad52) (n := l42.length) (cap := cc35) (k := .i64) (i := (ix (eI .i64).d a0.Sites v43)) hp53)) [36, 41] ?_; clear hs; intro a hs
    refine c_end ?_
    intro wq hbq
    replace hw := hw.behind hbq
    obtain ⟨wd54, hx55, hw⟩ := x_put (P := Tryd.prog) (ty := 0) (t := 38) (x := (Operand.tmp 53)) (y := (Operand.tmp 52)) (off := 0) (p := ad52.add ((ix (eI .i64).d a0.Sites v43).toNat * 1)) (v := .int .u32 (wu32 ((ix (eI .u32).d l42 (ix (eI .i64).d a0.Sites v43)) + (wu32 a1)))) (vs := [.int .u32 (wu32 ((ix (eI .u32).d l42 (ix (eI .i64).d a0.Sites v43)) + (wu32 a1)))]) (i := (ix (eI .i64).d a0.Sites v43)) (e' := (wu32 ((ix (eI .u32).d l42 (ix (eI .i64).d a0.Sites v43)) + (wu32 a1)) : Int)) hs hw rfl hp53.1 hp53.2 (by kernel_rfl) rfl (by kernel_rfl) rfl (by kernel_rfl) (Nat.le_of_ble_eq_true rfl) (by simp [Value.oneCell']) (by kernel_rfl)
    refine p_unit hs (by rfl) hx55 [52, 53] ?_; clear hs; intro a hs
    replace hs : Slots a 55 [(1, .int .i64 a1), (2, .pointer (some (⟨g2, 0, none⟩ : Addr))), (7, .slice (some ad52) (l42.set ((ix (eI .i64).d a0.Sites v43) : Int).toNat (wu32 ((ix (eI .u32).d l42 (ix (eI .i64).d a0.Sites v43)) + (wu32 a1)))).length cc35), (8, .int .i64 v43)] := by rw [show (l42.set ((ix (eI .i64).d a0.Sites v43) : Int).toNat (wu32 ((ix (eI .u32).d l42 (ix (eI .i64).d a0.Sites v43)) + (wu32 a1)))).length = (l42).length from List.length_set]; exact hs.kx
    refine c_done ⟨.inl (by kernel_rfl), ?_⟩
    clear hbq
    refine d_last ?_
    refine c_end ?_
    intro wq hbq
    replace hw := hw.behind hbq
    refine ib_norm ?_
    refine hK47 _ _ ?_
    refine go_plain [] [(8, .int .i64 (w64 (v43 + 1)))] hs ?_; clear hs; intro a hs
    replace hw := hw.up 1
    replace hw := hw.up 1
    exact round_end (l42.set ((ix (eI .i64).d a0.Sites v43) : Int).toNat (wu32 ((ix (eI .u32).d l42 (ix (eI .i64).d a0.Sites v43)) + (wu32 a1))), w64 (v43 + 1)) (Option.some.inj H).symm ⟨hs.kx, hw⟩
   ·replace H := ite_f H (of_decide_eq_false hc)
    have hb56 := hc
    rw [hb56] at hs
    refine wp_exit ?_
    refine th_exit ?_
    refine th_exit ?_
    refine in_block ?_
    replace hw := hw.up 1
    replace hw := hw.up 1
    rw [← hr41 _ (Option.some.inj H).symm] at HX41
    exact hJ3 l42 _ _ hs.kx hw HX41
  refine go_seq_k fun K19 hK19 => ?_
  have hJ1 : ∀ (v22 : Bool) (a : Act) (w : World), Slots a 55 [(1, .int .i64 a1), (2, .pointer (some (⟨g2, 0, none⟩ : Addr))), (24, .bool v22)] → St [] w0 w [box g2 32 [.slice A0_1 a0.Words.length c0_1, .slice A0_2 a0.Sites.length c0_2, .slice A0_3 a0.Syms.length c0_3]] → rivetref12_Image.j1 a0 a1 v22 = some r → K19 a w := by
   intro v22 a w hs hw H
   unfold rivetref12_Image.j1 at H
   refine hK19 _ _ ?_
   refine go_cond hs v22 (fun hc => ?_) fun hc => ?_
   ·replace H := ite_t H hc
    have hb23 := hc
    rw [hb23] at hs
    refine go_sp [1, 2, 24] [(4, .slice none 0 0), (5, .int .i64 11)] hs ?_; clear hs; intro a hs
    refine wp_ret ?_
    refine th_ret ?_
    obtain rfl := Option.some.inj H
    replace hw := St.own_nil hw 38 (eI .u32)
    refine ret2 (t1 := 4) (v1 := .slice none 0 0) (t2 := 5) (v2 := .int .i64 11) hs (by kernel_rfl) (by kernel_rfl) (by kernel_rfl) ?_
    exact ⟨none, 0, rfl, hw.only 1⟩
   ·replace H := ite_f H (ff hc)
    have hb26 := hc
    rw [hb26] at hs
    refine wp_skip ?_
    exact hJ2 _ _ hs.kx hw H
  refine go_region ?_
  refine go_pvs 3 [6, 12] [(16, .bool (decide (a1 < 0)))] hs ?_; clear hs; intro a hs
  cases hb20 : (decide (a1 < 0))
  ·replace H := ite_f H (of_decide_eq_false hb20)
   rw [hb20] at hs
   refine go_pvs 7 [16] [(20, .bool (decide (a1 > 16384)))] hs ?_; clear hs; intro a hs
   cases hb21 : (decide (a1 > 16384))
   ·replace H := ite_f H (of_decide_eq_false hb21)
    rw [hb21] at hs
    refine go_pvs 11 [20] [(24, .bool ((a1.tmod 4) != 0))] hs ?_; clear hs; intro a hs
    refine go_end ?_
    exact hJ1 ((a1.tmod 4) != 0) _ _ hs.kx hw H
   ·replace H := ite_t H (of_decide_eq_true hb21)
    rw [hb21] at hs
    refine go_pvs 11 [20] [(24, .bool true)] hs ?_; clear hs; intro a hs
    refine go_end ?_
    exact hJ1 true _ _ hs.kx hw H
  ·replace H := ite_t H (of_decide_eq_true hb20)
   rw [hb20] at hs
   refine go_pvs 11 [16] [(24, .bool true)] hs ?_; clear hs; intro a hs
   refine go_end ?_
   exact hJ1 true _ _ hs.kx hw H

end Go.Proofs.YtheccnbamcdpmaaDoor.T12
