/- YtheccnbamcdpmaaDoorT12: Go functions told as plain ones, each with a proof that its call comes to what is told, part 3. Condition of each: that the plain function comes to a value. -/
import Derived.Test.YtheccnbamcdpmaaDoorT12b
namespace Go.Proofs.YtheccnbamcdpmaaDoor.T12
open Go Go.RowKit Go.Proofs.YtheccnbamcdpmaaDoor.E
set_option linter.unusedVariables false
set_option linter.unusedSimpArgs false

/-! rivet/rivetlaw12.shown: function 7 -/
noncomputable def rivetlaw12_shown.j1 (v40 : Bool) : Option Bool := some v40
noncomputable def rivetlaw12_shown : Option Bool := ((load_Image (⟨([4, 7] : List Int), ([0] : List Int), ([] : List Sapi_Sym)⟩ : Sapi_Obj) 8).bind fun ⟨t14, t15⟩ => (((rivetref05_Same t14 ([12, 7] : List Int)).bind fun t29 => ((if t29 = true then (if t15 = 0 then ((load_Regs 8 2).bind fun t36 => (rivetlaw12_shown.j1 ((vx 0 t36.R 13) == 8))) else rivetlaw12_shown.j1 false) else rivetlaw12_shown.j1 false)))))
set_option maxRecDepth 100000 in
set_option maxHeartbeats 4000000 in
theorem rivetlaw12_shown.calls (r : Bool) (w0 : World) (H : rivetlaw12_shown = some r) :
    Calls Tryd.prog 7 #[] w0 fun e w' => e = .returned (.bool r) ∧ St [] w0 w' [] := by
 have hw : St [] w0 w0 [] := St.nil w0
 unfold rivetlaw12_shown at H
 refine go_fn Tryd.func7 rfl Tryd.ntmps7 ?_; intro a hs
 refine go_sp [] [] hs ?_; clear hs; intro a hs
 refine go_sk fun K2 hK2 => ?_
 obtain ⟨Aa3, cc4, wd5, hx6, hw⟩ := n_lit (P := Tryd.prog) (t := 22) (ty := 22) (T := 38) (len := 2) (parts := #[(0, (Operand.const (Value.int IntKind.u32 4))), (1, (Operand.const (Value.int IntKind.u32 7)))]) (z := .int .u32 0) (bytes := 4) (cells := #[.int .u32 4, .int .u32 7]) hs hw (eI .u32) ([4, 7] : List Int) (by kernel_rfl) (by kernel_rfl) (by kernel_rfl) (by kernel_rfl) (by kernel_rfl) (by kernel_rfl) (by kernel_rfl)
 refine go_run hs (by rfl) hx6 [] ?_; clear hs; intro a hs
 obtain ⟨Aa8, cc9, wd10, hx11, hw⟩ := n_lit (P := Tryd.prog) (t := 29) (ty := 29) (T := 3) (len := 1) (parts := #[(0, (Operand.const (Value.int IntKind.i64 0)))]) (z := .int .i64 0) (bytes := 8) (cells := #[.int .i64 0]) hs hw (eI .i64) ([0] : List Int) (by kernel_rfl) (by kernel_rfl) (by kernel_rfl) (by kernel_rfl) (by kernel_rfl) (by kernel_rfl) (by kernel_rfl)
 refine go_run hs (by rfl) hx11 [] ?_; clear hs; intro a hs
 refine go_pvs 3 [4, 5] [(6, .agg #[.slice Aa3 ([4, 7] : List Int).length cc4, .slice Aa8 ([0] : List Int).length cc9, .slice none 0 0])] hs ?_; clear hs; intro a hs
 obtain ⟨⟨t14, t15⟩, hx16, H⟩ := bind_some H
 refine go_call hs (by rfl) (load_Image.calls (⟨([4, 7] : List Int), ([0] : List Int), ([] : List Sapi_Sym)⟩ : Sapi_Obj) Aa3 cc4 Aa8 cc9 none 0 8 (t14, t15) _ (Rd.of_own (hw.up 1)) (Rd.of_own (hw.up 0)) (Rd.nil _ _) hx16) ?_
 rintro e wd19 ⟨Aa17, cc18, rfl, hw20⟩
 refine ⟨_, rfl, ?_⟩
 replace hw := hw.call hw20
 clear hs; intro a hs; replace hs := hs.rms [6]
 refine go_pvs 9 [7] [(1, .slice Aa17 t14.length cc18), (2, .int .i64 t15)] hs ?_; clear hs; intro a hs
 refine go_end (hK2 _ _ ?_)
 refine go_seq_k fun K22 hK22 => ?_
 have hJ1 : ∀ (v40 : Bool) (a : Act) (w : World), Slots a 23 [(0, .bool v40)] → St [] w0 w [own 38 (eI .u32) Aa17 cc18 t14, own 3 (eI .i64) Aa8 cc9 ([0] : List Int), own 38 (eI .u32) Aa3 cc4 ([4, 7] : List Int)] → rivetlaw12_shown.j1 v40 = some r → K22 a w := by
  intro v40 a w hs hw H
  unfold rivetlaw12_shown.j1 at H
  refine hK22 _ _ ?_
  refine wp_ret ?_
  obtain rfl := Option.some.inj H
  refine ret1 (t := 0) (v := .bool v40) hs (by kernel_rfl) (by kernel_rfl) ?_
  exact ⟨rfl, hw.only 0⟩
 refine go_region ?_
 refine go_pvs 1 [1] [(10, .slice Aa17 t14.length cc18)] hs ?_; clear hs; intro a hs
 obtain ⟨Aa23, cc24, wd25, hx26, hw⟩ := n_lit (P := Tryd.prog) (t := 22) (ty := 22) (T := 38) (len := 2) (parts := #[(0, (Operand.const (Value.int IntKind.u32 12))), (1, (Operand.const (Value.int IntKind.u32 7)))]) (z := .int .u32 0) (bytes := 4) (cells := #[.int .u32 12, .int .u32 7]) hs hw (eI .u32) ([12, 7] : List Int) (by kernel_rfl) (by kernel_rfl) (by kernel_rfl) (by kernel_rfl) (by kernel_rfl) (by kernel_rfl) (by kernel_rfl)
 refine go_run hs (by rfl) hx26 [] ?_; clear hs; intro a hs
 obtain ⟨t29, hx30, H⟩ := bind_some H
 refine go_call hs (by rfl) (rivetref05_Same.calls Aa17 cc18 t14 Aa23 cc24 ([12, 7] : List Int) t29 _ (Rd.of_own (hw.up 1)) (Rd.of_own (hw.up 0)) hx30) ?_
 rintro e wd31 ⟨rfl, hw32⟩
 refine ⟨_, rfl, ?_⟩
 replace hw := hw.call hw32
 clear hs; intro a hs; replace hs := hs.rms [10, 11]
 refine go_pvs 4 [12] [(13, .bool t29)] hs ?_; clear hs; intro a hs
 cases hb33 : t29
 ·replace H := ite_f H (ff hb33)
  rw [hb33] at hs
  refine go_pvs 14 [2, 13] [(0, .bool false)] hs ?_; clear hs; intro a hs
  refine go_end ?_
  replace hw := hw.up 3
  replace hw := hw.up 3
  replace hw := hw.up 3
  replace hw := hw.only 3
  exact hJ1 false _ _ hs.kx hw H
 ·replace H := ite_t H hb33
  rw [hb33] at hs
  refine go_pvs 8 [2, 13] [(17, .bool (t15 == 0))] hs ?_; clear hs; intro a hs
  cases hb34 : (t15 == 0)
  ·replace H := ite_f H (beq_eq_false_iff_ne.1 hb34)
   rw [hb34] at hs
   refine go_pvs 14 [17] [(0, .bool false)] hs ?_; clear hs; intro a hs
   refine go_end ?_
   replace hw := hw.up 3
   replace hw := hw.up 3
   replace hw := hw.up 3
   replace hw := hw.only 3
   exact hJ1 false _ _ hs.kx hw H
  ·replace H := ite_t H (beq_iff_eq.1 hb34)
   rw [hb34] at hs
   obtain ⟨t36, hx37, H⟩ := bind_some H
   refine go_call hs (by rfl) (load_Regs.calls 8 2 t36 _ hx37) ?_
   rintro e wd38 ⟨rfl, hw39⟩
   refine ⟨_, rfl, ?_⟩
   replace hw := hw.call hw39
   clear hs; intro a hs
   refine go_pvs 14 [17, 18] [(0, .bool ((vx 0 t36.R 13) == 8))] hs ?_; clear hs; intro a hs
   refine go_end ?_
   replace hw := hw.up 3
   replace hw := hw.up 3
   replace hw := hw.up 3
   replace hw := hw.only 3
   exact hJ1 ((vx 0 t36.R 13) == 8) _ _ hs.kx hw H

/-! rivet/rivetlaw12.few: function 12 -/
noncomputable def rivetlaw12_few.j2 (v42 : Int) (a0 : Sapi_Obj) (l39 : List Sapi_Sym) : Option ((List Sapi_Sym) × Int ⊕ (List Sapi_Sym)) := (if 0 ≤ v42 ∧ v42 < (a0.Syms.length : Int) then (if 0 ≤ (0 : Int) ∧ (0 : Int) ≤ (mnn ((((ix eSapi_Sym.d a0.Syms v42) : Sapi_Sym).Name).size : Int) 20) ∧ (mnn ((((ix eSapi_Sym.d a0.Syms v42) : Sapi_Sym).Name).size : Int) 20) ≤ ((((ix eSapi_Sym.d a0.Syms v42) : Sapi_Sym).Name).size : Int) then (if l39.length + ([({ ((ix eSapi_Sym.d a0.Syms v42) : Sapi_Sym) with Name := (((ix eSapi_Sym.d a0.Syms v42) : Sapi_Sym).Name).extract ((0 : Int) : Int).toNat ((mnn ((((ix eSapi_Sym.d a0.Syms v42) : Sapi_Sym).Name).size : Int) 20) : Int).toNat } : Sapi_Sym)] : List Sapi_Sym).length ≤ 5864062014805 then some (.inl (l39 ++ ([({ ((ix eSapi_Sym.d a0.Syms v42) : Sapi_Sym) with Name := (((ix eSapi_Sym.d a0.Syms v42) : Sapi_Sym).Name).extract ((0 : Int) : Int).toNat ((mnn ((((ix eSapi_Sym.d a0.Syms v42) : Sapi_Sym).Name).size : Int) 20) : Int).toNat } : Sapi_Sym)] : List Sapi_Sym), w64 (v42 + 1))) else none) else none) else none)
noncomputable def rivetlaw12_few.j1 (v42 : Int) (a0 : Sapi_Obj) (l39 : List Sapi_Sym) (v46 : Bool) : Option ((List Sapi_Sym) × Int ⊕ (List Sapi_Sym)) := (if v46 = true then rivetlaw12_few.j2 v42 a0 l39 else some (.inr l39))
noncomputable def rivetlaw12_few.j3 (a0 : Sapi_Obj) (l76 : List Sapi_Sym) : Option Sapi_Obj := some (⟨a0.Words.take (mnn (a0.Words.length : Int) 30 : Int).toNat, a0.Sites.take (mnn (a0.Sites.length : Int) 30 : Int).toNat, l76⟩ : Sapi_Obj)
noncomputable def rivetlaw12_few.b38 (a0 : Sapi_Obj) (l39 : List Sapi_Sym) (v42 : Int) : Option ((List Sapi_Sym) × Int ⊕ (List Sapi_Sym)) := (if v42 < (a0.Syms.length : Int) then rivetlaw12_few.j1 v42 a0 l39 (decide (v42 < 12)) else rivetlaw12_few.j1 v42 a0 l39 false)
noncomputable def rivetlaw12_few (a0 : Sapi_Obj) : Option Sapi_Obj := (if 0 ≤ (mnn (a0.Words.length : Int) 30) ∧ (mnn (a0.Words.length : Int) 30) ≤ (a0.Words.length : Int) then (if 0 ≤ (mnn (a0.Sites.length : Int) 30) ∧ (mnn (a0.Sites.length : Int) 30) ≤ (a0.Sites.length : Int) then ((loopO (fun (σ : (List Sapi_Sym) × Int) => rivetlaw12_few.b38 a0 σ.1 σ.2) (([] : List Sapi_Sym), 0)).bind fun e => rivetlaw12_few.j3 a0 e) else none) else none)
set_option maxRecDepth 100000 in
set_option maxHeartbeats 4000000 in
theorem rivetlaw12_few.calls (a0 : Sapi_Obj) (A0_1 : Option Addr) (c0_1 : Nat) (A0_2 : Option Addr) (c0_2 : Nat) (A0_3 : Option Addr) (c0_3 : Nat) (r : Sapi_Obj) (w0 : World) (hr0_1 : Rd w0 (eI .u32) A0_1 c0_1 a0.Words) (hr0_2 : Rd w0 (eI .i64) A0_2 c0_2 a0.Sites) (hr0_3 : Rd w0 eSapi_Sym A0_3 c0_3 a0.Syms) (H : rivetlaw12_few a0 = some r) :
    Calls Tryd.prog 12 #[.agg #[.slice A0_1 a0.Words.length c0_1, .slice A0_2 a0.Sites.length c0_2, .slice A0_3 a0.Syms.length c0_3]] w0 fun e w' => ∃ A_0_1 c_0_1, ∃ A_0_2 c_0_2, ∃ A_0_3 c_0_3, e = .returned (.agg #[.slice A_0_1 r.Words.length c_0_1, .slice A_0_2 r.Sites.length c_0_2, .slice A_0_3 r.Syms.length c_0_3]) ∧ (∀ wz, Rd wz (eI .u32) A0_1 c0_1 a0.Words → Rd wz (eI .u32) A_0_1 c_0_1 r.Words) ∧ (∀ wz, Rd wz (eI .i64) A0_2 c0_2 a0.Sites → Rd wz (eI .i64) A_0_2 c_0_2 r.Sites) ∧ St [] w0 w' [own 72 eSapi_Sym A_0_3 c_0_3 r.Syms] := by
 have hw : St [] w0 w0 [] := St.nil w0
 unfold rivetlaw12_few at H
 refine go_fn Tryd.func12 rfl Tryd.ntmps12 ?_; intro a hs
 refine go_sk fun K1 hK1 => ?_
 obtain ⟨g2, wd3, hx4, hw⟩ := x_boxc (P := Tryd.prog) (elem := 32) (v := (Operand.tmp 0)) (ty := 0) (cs := [.slice A0_1 a0.Words.length c0_1, .slice A0_2 a0.Sites.length c0_2, .slice A0_3 a0.Syms.length c0_3]) hs hw (by kernel_rfl)
 refine go_run hs (by rfl) hx4 [0] ?_; clear hs; intro a hs
 obtain ⟨g6, wd7, hx8, hw⟩ := x_allocc (P := Tryd.prog) (elem := 32) (ty := 0) (z := .agg #[.slice none 0 0, .slice none 0 0, .slice none 0 0]) (cs := [.slice none 0 0, .slice none 0 0, .slice none 0 0]) hs hw (by kernel_rfl) (by kernel_rfl)
 refine go_run hs (by rfl) hx8 [] ?_; clear hs; intro a hs
 replace hw := St.own_nil hw 38 (eI .u32)
 replace hw := St.own_nil hw 3 (eI .i64)
 replace hw := St.own_nil hw 72 eSapi_Sym
 replace hw : St [] w0 wd7 [own 72 eSapi_Sym none 0 ([] : List Sapi_Sym), own 3 (eI .i64) none 0 ([] : List Int), own 38 (eI .u32) none 0 ([] : List Int), box g6 32 [.slice none ([] : List Int).length 0, .slice none ([] : List Int).length 0, .slice none ([] : List Sapi_Sym).length 0], box g2 32 [.slice A0_1 a0.Words.length c0_1, .slice A0_2 a0.Sites.length c0_2, .slice A0_3 a0.Syms.length c0_3]] := hw
 refine go_end (hK1 _ _ ?_)
 refine go_seq_k fun K13 hK13 => ?_
 refine d_region [16] [(true, [0, 1, 2, 3, 4, 5, 6, 7, 8, 9, 10, 11, 12, 13, 14], 15), (true, [], 16)] [] (by kernel_rfl) (by kernel_rfl) (fun c a d v w h => by cases d <;> exact h) ?_
 refine d_seg ?_
 refine c_pvs [0] [1, 2, 3, 4, 5, 6, 7, 8, 9, 10, 11, 12, 13, 14] [] [(6, .pointer (some (⟨g2, 0, none⟩ : Addr)))] hs ?_; clear hs; intro a hs
 refine d_run hs (by rfl) (fun wx hbx => (x_bldD (g := g2) (o := 0) (p := (⟨g2, 0, none⟩ : Addr)) (v := .slice A0_1 a0.Words.length c0_1) (hw.up 4) hbx)) [6] ?_; clear hs; intro a hs
 refine c_pvs [2] [3, 4, 5, 6, 7, 8, 9, 10, 11, 12, 13, 14] [] [(8, .pointer (some (⟨g2, 0, none⟩ : Addr)))] hs ?_; clear hs; intro a hs
 refine d_run hs (by rfl) (fun wx hbx => (x_bldD (g := g2) (o := 0) (p := (⟨g2, 0, none⟩ : Addr)) (v := .slice A0_1 a0.Words.length c0_1) (hw.up 4) hbx)) [8] ?_; clear hs; intro a hs
 refine c_pvs [4, 5] [6, 7, 8, 9, 10, 11, 12, 13, 14] [9] [(11, .int .i64 (mnn (a0.Words.length : Int) 30))] hs ?_; clear hs; intro a hs
 obtain ⟨hp14, H⟩ := ite_only H
 obtain ⟨Aa15, cc16, hx17, hc18⟩ := w_hi (P := Tryd.prog) (ty := 22) (E := (eI .u32)) (T := 38) (t := 22) (x := (Operand.tmp 7)) (y := (Operand.tmp 11)) (k := .i64) hs (by kernel_rfl) (by kernel_rfl) (hr0_1.old hw) (by kernel_rfl) (by kernel_rfl) hp14.1 hp14.2
 refine d_run hs (by rfl) (fun wx hbx => (hx17 wx)) [7, 11] ?_; clear hs; intro a hs
 refine c_pvs [7] [8, 9, 10, 11, 12, 13, 14] [] [(13, .pointer (some (⟨g2, 1, none⟩ : Addr)))] hs ?_; clear hs; intro a hs
 refine d_run hs (by rfl) (fun wx hbx => (x_bldD (g := g2) (o := 1) (p := (⟨g2, 1, none⟩ : Addr)) (v := .slice A0_2 a0.Sites.length c0_2) (hw.up 4) hbx)) [13] ?_; clear hs; intro a hs
 refine c_pvs [9] [10, 11, 12, 13, 14] [] [(15, .pointer (some (⟨g2, 1, none⟩ : Addr)))] hs ?_; clear hs; intro a hs
 refine d_run hs (by rfl) (fun wx hbx => (x_bldD (g := g2) (o := 1) (p := (⟨g2, 1, none⟩ : Addr)) (v := .slice A0_2 a0.Sites.length c0_2) (hw.up 4) hbx)) [15] ?_; clear hs; intro a hs
 refine c_pvs [11, 12] [13, 14] [16] [(18, .int .i64 (mnn (a0.Sites.length : Int) 30))] hs ?_; clear hs; intro a hs
 obtain ⟨hp20, H⟩ := ite_only H
 obtain ⟨Aa21, cc22, hx23, hc24⟩ := w_hi (P := Tryd.prog) (ty := 29) (E := (eI .i64)) (T := 3) (t := 29) (x := (Operand.tmp 14)) (y := (Operand.tmp 18)) (k := .i64) hs (by kernel_rfl) (by kernel_rfl) (hr0_2.old hw) (by kernel_rfl) (by kernel_rfl) hp20.1 hp20.2
 refine d_run hs (by rfl) (fun wx hbx => (hx23 wx)) [14, 18] ?_; clear hs; intro a hs
 refine c_pvs [14] [] [12, 19] [(20, .agg #[.slice Aa15 (a0.Words.take (mnn (a0.Words.length : Int) 30 : Int).toNat).length cc16, .slice Aa21 (a0.Sites.take (mnn (a0.Sites.length : Int) 30 : Int).toNat).length cc22, .slice none 0 0])] hs ?_; clear hs; intro a hs
 refine c_end ?_
 intro wq hbq
 replace hw := hw.behind hbq
 have hbc := Below.refl wq.heap.size wq
 obtain ⟨g26, wd27, hx28, hwn⟩ := x_allocc (P := Tryd.prog) (elem := 32) (ty := 0) (z := .agg #[.slice none 0 0, .slice none 0 0, .slice none 0 0]) (cs := [.slice none 0 0, .slice none 0 0, .slice none 0 0]) hs (nil_of hw) (by kernel_rfl) (by kernel_rfl)
 replace hbc := hwn.below
 replace hw := hw.call hwn
 clear hwn
 refine p_run hs (by rfl) hx28 [] ?_; clear hs; intro a hs
 replace hw := St.own_nil hw 38 (eI .u32)
 replace hw := St.own_nil hw 3 (eI .i64)
 replace hw := St.own_nil hw 72 eSapi_Sym
 replace hw : St [] w0 wd27 [own 72 eSapi_Sym none 0 ([] : List Sapi_Sym), own 3 (eI .i64) none 0 ([] : List Int), own 38 (eI .u32) none 0 ([] : List Int), box g26 32 [.slice none ([] : List Int).length 0, .slice none ([] : List Int).length 0, .slice none ([] : List Sapi_Sym).length 0], own 72 eSapi_Sym none 0 ([] : List Sapi_Sym), own 3 (eI .i64) none 0 ([] : List Int), own 38 (eI .u32) none 0 ([] : List Int), box g6 32 [.slice none ([] : List Int).length 0, .slice none ([] : List Int).length 0, .slice none ([] : List Sapi_Sym).length 0], box g2 32 [.slice A0_1 a0.Words.length c0_1, .slice A0_2 a0.Sites.length c0_2, .slice A0_3 a0.Syms.length c0_3]] := hw
 refine c_done ⟨.inr (bn_of hbq hbc), ?_⟩
 clear hbc hbq
 refine d_seg ?_
 refine c_end ?_
 intro wq hbq
 replace hw := hw.behind hbq
 replace hw := hw.up 3
 obtain ⟨wd33, hx34, hw⟩ := x_bput (P := Tryd.prog) (ty := 0) (t := 32) (y := (Operand.tmp 3)) (z := (Operand.tmp 20)) (o := 0) (p := (⟨g26, 0, none⟩ : Addr)) (v := .agg #[.slice Aa15 (a0.Words.take (mnn (a0.Words.length : Int) 30 : Int).toNat).length cc16, .slice Aa21 (a0.Sites.take (mnn (a0.Sites.length : Int) 30 : Int).toNat).length cc22, .slice none 0 0]) (vs := [.slice Aa15 (a0.Words.take (mnn (a0.Words.length : Int) 30 : Int).toNat).length cc16, .slice Aa21 (a0.Sites.take (mnn (a0.Sites.length : Int) 30 : Int).toNat).length cc22, .slice none 0 0]) (cs' := [.slice Aa15 (a0.Words.take (mnn (a0.Words.length : Int) 30 : Int).toNat).length cc16, .slice Aa21 (a0.Sites.take (mnn (a0.Sites.length : Int) 30 : Int).toNat).length cc22, .slice none 0 0]) hs hw (by kernel_rfl) rfl (by kernel_rfl) rfl (by kernel_rfl) (by kernel_rfl) (by simp [Value.oneCell']) rfl
 refine p_unit hs (by rfl) hx34 [20] ?_; clear hs; intro a hs
 replace hw := St.own_nil hw 72 eSapi_Sym
 replace hw : St [] w0 wd33 [own 72 eSapi_Sym none 0 ([] : List Sapi_Sym), box g26 32 [.slice Aa15 (a0.Words.take (mnn (a0.Words.length : Int) 30 : Int).toNat).length cc16, .slice Aa21 (a0.Sites.take (mnn (a0.Sites.length : Int) 30 : Int).toNat).length cc22, .slice none ([] : List Sapi_Sym).length 0], own 72 eSapi_Sym none 0 ([] : List Sapi_Sym), own 3 (eI .i64) none 0 ([] : List Int), own 38 (eI .u32) none 0 ([] : List Int), own 72 eSapi_Sym none 0 ([] : List Sapi_Sym), own 3 (eI .i64) none 0 ([] : List Int), own 38 (eI .u32) none 0 ([] : List Int), box g6 32 [.slice none ([] : List Int).length 0, .slice none ([] : List Int).length 0, .slice none ([] : List Sapi_Sym).length 0], box g2 32 [.slice A0_1 a0.Words.length c0_1, .slice A0_2 a0.Sites.length c0_2, .slice A0_3 a0.Syms.length c0_3]] := hw
 refine c_done ⟨.inl (by kernel_rfl), ?_⟩
 clear hbq
 refine d_last ?_
 refine c_end ?_
 intro wq hbq
 replace hw := hw.behind hbq
 refine hK13 _ _ ?_
 refine go_seq_k fun K36 hK36 => ?_
 refine go_sp [] [(4, .int .i64 0)] hs ?_; clear hs; intro a hs
 refine wp_block ?_
 obtain ⟨e38, hl38, HX38⟩ := bind_some H
 have hJ3 : ∀ (Aa77 : Option Addr) (cc78 : Nat) (l76 : List Sapi_Sym) (a : Act) (w : World), Slots a 52 [(2, .pointer (some (⟨g6, 0, none⟩ : Addr))), (3, .pointer (some (⟨g26, 0, none⟩ : Addr)))] → St [] w0 w [own 72 eSapi_Sym Aa77 cc78 l76, box g26 32 [.slice Aa15 (a0.Words.take (mnn (a0.Words.length : Int) 30 : Int).toNat).length cc16, .slice Aa21 (a0.Sites.take (mnn (a0.Sites.length : Int) 30 : Int).toNat).length cc22, .slice Aa77 l76.length cc78], own 72 eSapi_Sym none 0 ([] : List Sapi_Sym), own 3 (eI .i64) none 0 ([] : List Int), own 38 (eI .u32) none 0 ([] : List Int), own 72 eSapi_Sym none 0 ([] : List Sapi_Sym), own 3 (eI .i64) none 0 ([] : List Int), own 38 (eI .u32) none 0 ([] : List Int), box g6 32 [.slice none ([] : List Int).length 0, .slice none ([] : List Int).length 0, .slice none ([] : List Sapi_Sym).length 0], box g2 32 [.slice A0_1 a0.Words.length c0_1, .slice A0_2 a0.Sites.length c0_2, .slice A0_3 a0.Syms.length c0_3]] → rivetlaw12_few.j3 a0 l76 = some r → K36 a w := by
  intro Aa77 cc78 l76 a w hs hw H
  unfold rivetlaw12_few.j3 at H
  refine hK36 _ _ ?_
  refine go_sk fun K79 hK79 => ?_
  refine go_run hs (by rfl) (x_blds (g := g26) (o := 0) (p := (⟨g26, 0, none⟩ : Addr)) (vs := [.slice Aa15 (a0.Words.take (mnn (a0.Words.length : Int) 30 : Int).toNat).length cc16, .slice Aa21 (a0.Sites.take (mnn (a0.Sites.length : Int) 30 : Int).toNat).length cc22, .slice Aa77 l76.length cc78]) (hw.up 1)) [3] ?_; clear hs; intro a hs
  replace hw := hw.up 8
  obtain ⟨wd80, hx81, hw⟩ := x_bput (P := Tryd.prog) (ty := 0) (t := 32) (y := (Operand.tmp 2)) (z := (Operand.tmp 51)) (o := 0) (p := (⟨g6, 0, none⟩ : Addr)) (v := .agg #[.slice Aa15 (a0.Words.take (mnn (a0.Words.length : Int) 30 : Int).toNat).length cc16, .slice Aa21 (a0.Sites.take (mnn (a0.Sites.length : Int) 30 : Int).toNat).length cc22, .slice Aa77 l76.length cc78]) (vs := [.slice Aa15 (a0.Words.take (mnn (a0.Words.length : Int) 30 : Int).toNat).length cc16, .slice Aa21 (a0.Sites.take (mnn (a0.Sites.length : Int) 30 : Int).toNat).length cc22, .slice Aa77 l76.length cc78]) (cs' := [.slice Aa15 (a0.Words.take (mnn (a0.Words.length : Int) 30 : Int).toNat).length cc16, .slice Aa21 (a0.Sites.take (mnn (a0.Sites.length : Int) 30 : Int).toNat).length cc22, .slice Aa77 l76.length cc78]) hs hw (by kernel_rfl) rfl (by kernel_rfl) rfl (by kernel_rfl) (by kernel_rfl) (by simp [Value.oneCell']) rfl
  refine go_unit hs (by rfl) hx81 [51] ?_; clear hs; intro a hs
  refine go_end (hK79 _ _ ?_)
  refine wp_ret ?_
  obtain rfl := Option.some.inj H
  replace hw := hw.up 1
  replace hs : Slots a 52 [(2, .pointer (some (⟨g6, 0, none⟩ : Addr)))] := hs.kx
  refine ret1g (L := [(2, .pointer (some (⟨g6, 0, none⟩ : Addr)))]) (r1 := .cell 2 32) (v1 := .agg #[.slice Aa15 (a0.Words.take (mnn (a0.Words.length : Int) 30 : Int).toNat).length cc16, .slice Aa21 (a0.Sites.take (mnn (a0.Sites.length : Int) 30 : Int).toNat).length cc22, .slice Aa77 l76.length cc78]) hs (by kernel_rfl) ⟨_, (show lk 2 [(2, .pointer (some (⟨g6, 0, none⟩ : Addr)))] = some (.pointer (some (⟨g6, 0, none⟩ : Addr))) by kernel_rfl), lvb_row (hw.up 1) (by kernel_rfl) (by kernel_rfl) (by kernel_rfl)⟩ ?_
  exact ⟨Aa15, cc16, Aa21, cc22, Aa77, cc78, rfl, hc18, hc24, hw.only 1⟩
 clear H
 refine go_loop (σ := (List Sapi_Sym) × Int) (fun σ a w => ∃ Aa40, ∃ cc41, Slots a 52 [(1, .pointer (some (⟨g2, 0, none⟩ : Addr))), (2, .pointer (some (⟨g6, 0, none⟩ : Addr))), (3, .pointer (some (⟨g26, 0, none⟩ : Addr))), (4, .int .i64 σ.2)] ∧ St [] w0 w [own 72 eSapi_Sym Aa40 cc41 σ.1, box g26 32 [.slice Aa15 (a0.Words.take (mnn (a0.Words.length : Int) 30 : Int).toNat).length cc16, .slice Aa21 (a0.Sites.take (mnn (a0.Sites.length : Int) 30 : Int).toNat).length cc22, .slice Aa40 σ.1.length cc41], own 72 eSapi_Sym none 0 ([] : List Sapi_Sym), own 3 (eI .i64) none 0 ([] : List Int), own 38 (eI .u32) none 0 ([] : List Int), own 72 eSapi_Sym none 0 ([] : List Sapi_Sym), own 3 (eI .i64) none 0 ([] : List Int), own 38 (eI .u32) none 0 ([] : List Int), box g6 32 [.slice none ([] : List Int).length 0, .slice none ([] : List Int).length 0, .slice none ([] : List Sapi_Sym).length 0], box g2 32 [.slice A0_1 a0.Words.length c0_1, .slice A0_2 a0.Sites.length c0_2, .slice A0_3 a0.Syms.length c0_3]]) hl38 (by exact ⟨none, 0, hs.kx, hw⟩) ?_
 rintro ⟨l39, v42⟩ a w ⟨Aa40, cc41, hs, hw⟩ o H hr38
 replace hs : Slots a 52 [(1, .pointer (some (⟨g2, 0, none⟩ : Addr))), (2, .pointer (some (⟨g6, 0, none⟩ : Addr))), (3, .pointer (some (⟨g26, 0, none⟩ : Addr))), (4, .int .i64 v42)] := hs
 replace hw : St [] w0 w [own 72 eSapi_Sym Aa40 cc41 l39, box g26 32 [.slice Aa15 (a0.Words.take (mnn (a0.Words.length : Int) 30 : Int).toNat).length cc16, .slice Aa21 (a0.Sites.take (mnn (a0.Sites.length : Int) 30 : Int).toNat).length cc22, .slice Aa40 l39.length cc41], own 72 eSapi_Sym none 0 ([] : List Sapi_Sym), own 3 (eI .i64) none 0 ([] : List Int), own 38 (eI .u32) none 0 ([] : List Int), own 72 eSapi_Sym none 0 ([] : List Sapi_Sym), own 3 (eI .i64) none 0 ([] : List Int), own 38 (eI .u32) none 0 ([] : List Int), box g6 32 [.slice none ([] : List Int).length 0, .slice none ([] : List Int).length 0, .slice none ([] : List Sapi_Sym).length 0], box g2 32 [.slice A0_1 a0.Words.length c0_1, .slice A0_2 a0.Sites.length c0_2, .slice A0_3 a0.Syms.length c0_3]] := hw
 replace H : rivetlaw12_few.b38 a0 l39 v42 = some o := H
 unfold rivetlaw12_few.b38 at H
 refine go_seq_k fun K43 hK43 => ?_
 have hJ2 : ∀ (a : Act) (w : World), Slots a 52 [(1, .pointer (some (⟨g2, 0, none⟩ : Addr))), (2, .pointer (some (⟨g6, 0, none⟩ : Addr))), (3, .pointer (some (⟨g26, 0, none⟩ : Addr))), (4, .int .i64 v42)] → St [] w0 w [own 72 eSapi_Sym Aa40 cc41 l39, box g26 32 [.slice Aa15 (a0.Words.take (mnn (a0.Words.length : Int) 30 : Int).toNat).length cc16, .slice Aa21 (a0.Sites.take (mnn (a0.Sites.length : Int) 30 : Int).toNat).length cc22, .slice Aa40 l39.length cc41], own 72 eSapi_Sym none 0 ([] : List Sapi_Sym), own 3 (eI .i64) none 0 ([] : List Int), own 38 (eI .u32) none 0 ([] : List Int), own 72 eSapi_Sym none 0 ([] : List Sapi_Sym), own 3 (eI .i64) none 0 ([] : List Int), own 38 (eI .u32) none 0 ([] : List Int), box g6 32 [.slice none ([] : List Int).length 0, .slice none ([] : List Int).length 0, .slice none ([] : List Sapi_Sym).length 0], box g2 32 [.slice A0_1 a0.Words.length c0_1, .slice A0_2 a0.Sites.length c0_2, .slice A0_3 a0.Syms.length c0_3]] → rivetlaw12_few.j2 v42 a0 l39 = some o → K43 a w := by
  intro a w hs hw H
  unfold rivetlaw12_few.j2 at H
  refine hK43 _ _ ?_
  refine go_seq_k fun K49 hK49 => ?_
  refine wp_block ?_
  refine go_sk fun K50 hK50 => ?_
  refine go_pvs 1 [] [(32, .pointer (some (⟨g2, 2, none⟩ : Addr)))] hs ?_; clear hs; intro a hs
  refine go_run hs (by rfl) (x_bld (g := g2) (o := 2) (p := (⟨g2, 2, none⟩ : Addr)) (v := .slice A0_3 a0.Syms.length c0_3) (hw.up 9)) [32] ?_; clear hs; intro a hs
  refine go_pvs 3 [] [(34, .int .i64 v42)] hs ?_; clear hs; intro a hs
  obtain ⟨hp51, H⟩ := ite_only H
  obtain ⟨ad52, rfl⟩ := (hr0_3.old hw).some hp51.1 hp51.2
  refine go_run hs (by rfl) (x_idx (T := 72) (sz := 2) (a := ad52) (n := a0.Syms.length) (cap := c0_3) (k := .i64) (i := v42) hp51) [33, 34] ?_; clear hs; intro a hs
  refine go_run hs (by rfl) (x_lds (off := 0) (p := ad52.add (v42.toNat * 2)) (cs := [.string ((ix eSapi_Sym.d a0.Syms v42).Name), .int .i64 ((ix eSapi_Sym.d a0.Syms v42).At)]) (hr0_3.old hw) hp51 rfl) [35] ?_; clear hs; intro a hs
  obtain ⟨ad53, wd54, hx55, hw⟩ := x_alloc1 (P := Tryd.prog) (elem := 72) (ty := 0) (z := .agg #[.string (⟨#[]⟩ : ByteArray), .int .i64 0]) hs hw eSapi_Sym (⟨(⟨#[]⟩ : ByteArray), 0⟩ : Sapi_Sym) (by kernel_rfl) (by kernel_rfl)
  refine go_run hs (by rfl) hx55 [] ?_; clear hs; intro a hs
  obtain ⟨wd57, hx58, hw⟩ := x_put (P := Tryd.prog) (ty := 0) (t := 72) (x := (Operand.tmp 5)) (y := (Operand.tmp 36)) (off := 0) (p := ad53) (v := .agg #[.string ((ix eSapi_Sym.d a0.Syms v42).Name), .int .i64 ((ix eSapi_Sym.d a0.Syms v42).At)]) (vs := [.string ((ix eSapi_Sym.d a0.Syms v42).Name), .int .i64 ((ix eSapi_Sym.d a0.Syms v42).At)]) (i := 0) (e' := (((ix eSapi_Sym.d a0.Syms v42) : Sapi_Sym) : Sapi_Sym)) hs hw rfl (one_ok (⟨(⟨#[]⟩ : ByteArray), 0⟩ : Sapi_Sym)).1 (one_ok (⟨(⟨#[]⟩ : ByteArray), 0⟩ : Sapi_Sym)).2 (by kernel_rfl) (one_at _ _) (by kernel_rfl) rfl (by kernel_rfl) (Nat.le_of_ble_eq_true rfl) (by simp [Value.oneCell']) (by kernel_rfl)
  refine go_unit hs (by rfl) hx58 [36] ?_; clear hs; intro a hs
  replace hw : St [] w0 wd57 [own 72 eSapi_Sym (some ad53) 1 [((ix eSapi_Sym.d a0.Syms v42) : Sapi_Sym)], own 72 eSapi_Sym Aa40 cc41 l39, box g26 32 [.slice Aa15 (a0.Words.take (mnn (a0.Words.length : Int) 30 : Int).toNat).length cc16, .slice Aa21 (a0.Sites.take (mnn (a0.Sites.length : Int) 30 : Int).toNat).length cc22, .slice Aa40 l39.length cc41], own 72 eSapi_Sym none 0 ([] : List Sapi_Sym), own 3 (eI .i64) none 0 ([] : List Int), own 38 (eI .u32) none 0 ([] : List Int), own 72 eSapi_Sym none 0 ([] : List Sapi_Sym), own 3 (eI .i64) none 0 ([] : List Int), own 38 (eI .u32) none 0 ([] : List Int), box g6 32 [.slice none ([] : List Int).length 0, .slice none ([] : List Int).length 0, .slice none ([] : List Sapi_Sym).length 0], box g2 32 [.slice A0_1 a0.Words.length c0_1, .slice A0_2 a0.Sites.length c0_2, .slice (some ad52) a0.Syms.length c0_3]] := hw
  refine go_end (hK50 _ _ ?_)
  refine go_sk fun K59 hK59 => ?_
  refine go_pvs 1 [] [(37, .pointer (some ((ad53 : Addr).add 0)))] hs ?_; clear hs; intro a hs
  refine go_run hs (by rfl) (x_ld (off := 0) (p := (ad53 : Addr).add 0) (v := .string (((ix eSapi_Sym.d a0.Syms v42) : Sapi_Sym).Name)) (Rd.of_own (hw.up 0)) (one_ok ((ix eSapi_Sym.d a0.Syms v42) : Sapi_Sym)) (one_off _ _ _)) [37] ?_; clear hs; intro a hs
  refine go_pvs 3 [] [(39, .pointer (some ((ad53 : Addr).add 0)))] hs ?_; clear hs; intro a hs
  refine go_run hs (by rfl) (x_ld (off := 0) (p := (ad53 : Addr).add 0) (v := .string (((ix eSapi_Sym.d a0.Syms v42) : Sapi_Sym).Name)) (Rd.of_own (hw.up 0)) (one_ok ((ix eSapi_Sym.d a0.Syms v42) : Sapi_Sym)) (one_off _ _ _)) [39] ?_; clear hs; intro a hs
  refine go_pvs 6 [40] [(42, .int .i64 (mnn ((((ix eSapi_Sym.d a0.Syms v42) : Sapi_Sym).Name).size : Int) 20))] hs ?_; clear hs; intro a hs
  obtain ⟨hp60, H⟩ := ite_only H
  refine go_run hs (by rfl) (x_scut (s := ((ix eSapi_Sym.d a0.Syms v42) : Sapi_Sym).Name) (k := .i64) (k' := .i64) (l0 := (0 : Int)) (h := (mnn ((((ix eSapi_Sym.d a0.Syms v42) : Sapi_Sym).Name).size : Int) 20)) (by kernel_rfl) (by kernel_rfl) (Or.inr ⟨rfl, rfl⟩) (Or.inl (by kernel_rfl)) hp60.1 hp60.2.1 hp60.2.2) [38, 42] ?_; clear hs; intro a hs
  refine go_pvs 8 [] [(44, .pointer (some ((ad53 : Addr).add 0)))] hs ?_; clear hs; intro a hs
  obtain ⟨wd61, hx62, hw⟩ := x_put (P := Tryd.prog) (ty := 0) (t := 9) (x := (Operand.tmp 44)) (y := (Operand.tmp 43)) (off := 0) (p := (ad53 : Addr).add 0) (v := .string ((((ix eSapi_Sym.d a0.Syms v42) : Sapi_Sym).Name).extract ((0 : Int) : Int).toNat ((mnn ((((ix eSapi_Sym.d a0.Syms v42) : Sapi_Sym).Name).size : Int) 20) : Int).toNat)) (vs := [.string ((((ix eSapi_Sym.d a0.Syms v42) : Sapi_Sym).Name).extract ((0 : Int) : Int).toNat ((mnn ((((ix eSapi_Sym.d a0.Syms v42) : Sapi_Sym).Name).size : Int) 20) : Int).toNat)]) (i := 0) (e' := (({ ((ix eSapi_Sym.d a0.Syms v42) : Sapi_Sym) with Name := (((ix eSapi_Sym.d a0.Syms v42) : Sapi_Sym).Name).extract ((0 : Int) : Int).toNat ((mnn ((((ix eSapi_Sym.d a0.Syms v42) : Sapi_Sym).Name).size : Int) 20) : Int).toNat } : Sapi_Sym) : Sapi_Sym)) hs hw rfl (one_ok ((ix eSapi_Sym.d a0.Syms v42) : Sapi_Sym)).1 (one_ok ((ix eSapi_Sym.d a0.Syms v42) : Sapi_Sym)).2 (by kernel_rfl) (one_off _ _ _) (by kernel_rfl) rfl (by kernel_rfl) (Nat.le_of_ble_eq_true rfl) (by simp [Value.oneCell']) (by kernel_rfl)
  refine go_unit hs (by rfl) hx62 [43, 44] ?_; clear hs; intro a hs
  replace hw : St [] w0 wd61 [own 72 eSapi_Sym (some ad53) 1 [({ ((ix eSapi_Sym.d a0.Syms v42) : Sapi_Sym) with Name := (((ix eSapi_Sym.d a0.Syms v42) : Sapi_Sym).Name).extract ((0 : Int) : Int).toNat ((mnn ((((ix eSapi_Sym.d a0.Syms v42) : Sapi_Sym).Name).size : Int) 20) : Int).toNat } : Sapi_Sym)], own 72 eSapi_Sym Aa40 cc41 l39, box g26 32 [.slice Aa15 (a0.Words.take (mnn (a0.Words.length : Int) 30 : Int).toNat).length cc16, .slice Aa21 (a0.Sites.take (mnn (a0.Sites.length : Int) 30 : Int).toNat).length cc22, .slice Aa40 l39.length cc41], own 72 eSapi_Sym none 0 ([] : List Sapi_Sym), own 3 (eI .i64) none 0 ([] : List Int), own 38 (eI .u32) none 0 ([] : List Int), own 72 eSapi_Sym none 0 ([] : List Sapi_Sym), own 3 (eI .i64) none 0 ([] : List Int), own 38 (eI .u32) none 0 ([] : List Int), box g6 32 [.slice none ([] : List Int).length 0, .slice none ([] : List Int).length 0, .slice none ([] : List Sapi_Sym).length 0], box g2 32 [.slice A0_1 a0.Words.length c0_1, .slice A0_2 a0.Sites.length c0_2, .slice (some ad52) a0.Syms.length c0_3]] := hw
  refine go_end (hK59 _ _ ?_)
  refine go_region ?_
  refine go_pvs 1 [] [(45, .pointer (some (⟨g26, 2, none⟩ : Addr)))] hs ?_; clear hs; intro a hs
  refine go_run hs (by rfl) (x_bld (g := g26) (o := 2) (p := (⟨g26, 2, none⟩ : Addr)) (v := .slice Aa40 l39.length cc41) (hw.up 2)) [45] ?_; clear hs; intro a hs
  refine go_run hs (by rfl) (x_lds (off := 0) (p := ad53) (cs := [.string ((((ix eSapi_Sym.d a0.Syms v42) : Sapi_Sym).Name).extract ((0 : Int) : Int).toNat ((mnn ((((ix eSapi_Sym.d a0.Syms v42) : Sapi_Sym).Name).size : Int) 20) : Int).toNat), .int .i64 (((ix eSapi_Sym.d a0.Syms v42) : Sapi_Sym).At)]) (Rd.of_own (hw.up 0)) (one_ok ({ ((ix eSapi_Sym.d a0.Syms v42) : Sapi_Sym) with Name := (((ix eSapi_Sym.d a0.Syms v42) : Sapi_Sym).Name).extract ((0 : Int) : Int).toNat ((mnn ((((ix eSapi_Sym.d a0.Syms v42) : Sapi_Sym).Name).size : Int) 20) : Int).toNat } : Sapi_Sym)) (one_at _ _)) [5] ?_; clear hs; intro a hs
  obtain ⟨Aa63, cc64, wd65, hx66, hw⟩ := n_lit (P := Tryd.prog) (t := 30) (ty := 30) (T := 72) (len := 1) (parts := #[(0, (Operand.tmp 47))]) (z := .agg #[.string (⟨#[]⟩ : ByteArray), .int .i64 0]) (bytes := 24) (cells := #[.string ((((ix eSapi_Sym.d a0.Syms v42) : Sapi_Sym).Name).extract ((0 : Int) : Int).toNat ((mnn ((((ix eSapi_Sym.d a0.Syms v42) : Sapi_Sym).Name).size : Int) 20) : Int).toNat), .int .i64 (((ix eSapi_Sym.d a0.Syms v42) : Sapi_Sym).At)]) hs hw eSapi_Sym ([({ ((ix eSapi_Sym.d a0.Syms v42) : Sapi_Sym) with Name := (((ix eSapi_Sym.d a0.Syms v42) : Sapi_Sym).Name).extract ((0 : Int) : Int).toNat ((mnn ((((ix eSapi_Sym.d a0.Syms v42) : Sapi_Sym).Name).size : Int) 20) : Int).toNat } : Sapi_Sym)] : List Sapi_Sym) (by kernel_rfl) (by kernel_rfl) (by kernel_rfl) (by kernel_rfl) (by kernel_rfl) (by kernel_rfl) (by kernel_rfl)
  refine go_run hs (by rfl) hx66 [47] ?_; clear hs; intro a hs
  obtain ⟨hp68, H⟩ := ite_only H
  have hsrc73 : Src Tryd.prog eSapi_Sym.sz 30 (.slice Aa63 ([({ ((ix eSapi_Sym.d a0.Syms v42) : Sapi_Sym) with Name := (((ix eSapi_Sym.d a0.Syms v42) : Sapi_Sym).Name).extract ((0 : Int) : Int).toNat ((mnn ((((ix eSapi_Sym.d a0.Syms v42) : Sapi_Sym).Name).size : Int) 20) : Int).toNat } : Sapi_Sym)] : List Sapi_Sym).length cc64) ([({ ((ix eSapi_Sym.d a0.Syms v42) : Sapi_Sym) with Name := (((ix eSapi_Sym.d a0.Syms v42) : Sapi_Sym).Name).extract ((0 : Int) : Int).toNat ((mnn ((((ix eSapi_Sym.d a0.Syms v42) : Sapi_Sym).Name).size : Int) 20) : Int).toNat } : Sapi_Sym)] : List Sapi_Sym).length (([({ ((ix eSapi_Sym.d a0.Syms v42) : Sapi_Sym) with Name := (((ix eSapi_Sym.d a0.Syms v42) : Sapi_Sym).Name).extract ((0 : Int) : Int).toNat ((mnn ((((ix eSapi_Sym.d a0.Syms v42) : Sapi_Sym).Name).size : Int) 20) : Int).toNat } : Sapi_Sym)] : List Sapi_Sym).flatMap eSapi_Sym.enc) _ := (Src.of_rd (E := eSapi_Sym) (e' := 72) (by kernel_rfl) (Rd.of_own (hw.up 0)))
  replace hw := hw.up 2
  obtain ⟨Aa69, cc70, wd71, hx72, hw⟩ := x_append (P := Tryd.prog) (t := 30) (tx := 30) (ty := 30) (x := (Operand.tmp 46)) (y := (Operand.tmp 48)) (z := .agg #[.string (⟨#[]⟩ : ByteArray), .int .i64 0]) (bytes := 24) (l2 := ([({ ((ix eSapi_Sym.d a0.Syms v42) : Sapi_Sym) with Name := (((ix eSapi_Sym.d a0.Syms v42) : Sapi_Sym).Name).extract ((0 : Int) : Int).toNat ((mnn ((((ix eSapi_Sym.d a0.Syms v42) : Sapi_Sym).Name).size : Int) 20) : Int).toNat } : Sapi_Sym)] : List Sapi_Sym)) hs hw (by kernel_rfl) (by kernel_rfl) (by kernel_rfl) (by kernel_rfl) (by kernel_rfl) hsrc73 (by omega) (by omega)
  refine go_run hs (by rfl) hx72 [46, 48] ?_; clear hs; intro a hs
  refine go_pvs 6 [] [(50, .pointer (some (⟨g26, 2, none⟩ : Addr)))] hs ?_; clear hs; intro a hs
  replace hw := hw.up 3
  obtain ⟨wd74, hx75, hw⟩ := x_bput (P := Tryd.prog) (ty := 0) (t := 30) (y := (Operand.tmp 50)) (z := (Operand.tmp 49)) (o := 2) (p := (⟨g26, 2, none⟩ : Addr)) (v := .slice Aa69 (l39 ++ ([({ ((ix eSapi_Sym.d a0.Syms v42) : Sapi_Sym) with Name := (((ix eSapi_Sym.d a0.Syms v42) : Sapi_Sym).Name).extract ((0 : Int) : Int).toNat ((mnn ((((ix eSapi_Sym.d a0.Syms v42) : Sapi_Sym).Name).size : Int) 20) : Int).toNat } : Sapi_Sym)] : List Sapi_Sym)).length cc70) (vs := [.slice Aa69 (l39 ++ ([({ ((ix eSapi_Sym.d a0.Syms v42) : Sapi_Sym) with Name := (((ix eSapi_Sym.d a0.Syms v42) : Sapi_Sym).Name).extract ((0 : Int) : Int).toNat ((mnn ((((ix eSapi_Sym.d a0.Syms v42) : Sapi_Sym).Name).size : Int) 20) : Int).toNat } : Sapi_Sym)] : List Sapi_Sym)).length cc70]) (cs' := [.slice Aa15 (a0.Words.take (mnn (a0.Words.length : Int) 30 : Int).toNat).length cc16, .slice Aa21 (a0.Sites.take (mnn (a0.Sites.length : Int) 30 : Int).toNat).length cc22, .slice Aa69 (l39 ++ ([({ ((ix eSapi_Sym.d a0.Syms v42) : Sapi_Sym) with Name := (((ix eSapi_Sym.d a0.Syms v42) : Sapi_Sym).Name).extract ((0 : Int) : Int).toNat ((mnn ((((ix eSapi_Sym.d a0.Syms v42) : Sapi_Sym).Name).size : Int) 20) : Int).toNat } : Sapi_Sym)] : List Sapi_Sym)).length cc70]) hs hw (by kernel_rfl) rfl (by kernel_rfl) rfl (by kernel_rfl) (by kernel_rfl) (by simp [Value.oneCell']) rfl
  refine go_unit hs (by rfl) hx75 [49, 50] ?_; clear hs; intro a hs
  refine go_end ?_
  refine ib_norm ?_
  refine hK49 _ _ ?_
  refine go_plain [] [(4, .int .i64 (w64 (v42 + 1)))] hs ?_; clear hs; intro a hs
  replace hw := hw.up 11
  replace hw := hw.up 11
  replace hw := hw.up 11
  replace hw := hw.up 11
  replace hw := hw.up 11
  replace hw := hw.up 11
  replace hw := hw.up 11
  replace hw := hw.up 11
  replace hw := hw.up 8
  replace hw := hw.up 9
  replace hw := hw.only 10
  exact round_end (l39 ++ ([({ ((ix eSapi_Sym.d a0.Syms v42) : Sapi_Sym) with Name := (((ix eSapi_Sym.d a0.Syms v42) : Sapi_Sym).Name).extract ((0 : Int) : Int).toNat ((mnn ((((ix eSapi_Sym.d a0.Syms v42) : Sapi_Sym).Name).size : Int) 20) : Int).toNat } : Sapi_Sym)] : List Sapi_Sym), w64 (v42 + 1)) (Option.some.inj H).symm ⟨Aa69, cc70, hs.kx, hw⟩
 refine go_seq_k fun K44 hK44 => ?_
 have hJ1 : ∀ (v46 : Bool) (a : Act) (w : World), Slots a 52 [(1, .pointer (some (⟨g2, 0, none⟩ : Addr))), (2, .pointer (some (⟨g6, 0, none⟩ : Addr))), (3, .pointer (some (⟨g26, 0, none⟩ : Addr))), (4, .int .i64 v42), (29, .bool v46)] → St [] w0 w [own 72 eSapi_Sym Aa40 cc41 l39, box g26 32 [.slice Aa15 (a0.Words.take (mnn (a0.Words.length : Int) 30 : Int).toNat).length cc16, .slice Aa21 (a0.Sites.take (mnn (a0.Sites.length : Int) 30 : Int).toNat).length cc22, .slice Aa40 l39.length cc41], own 72 eSapi_Sym none 0 ([] : List Sapi_Sym), own 3 (eI .i64) none 0 ([] : List Int), own 38 (eI .u32) none 0 ([] : List Int), own 72 eSapi_Sym none 0 ([] : List Sapi_Sym), own 3 (eI .i64) none 0 ([] : List Int), own 38 (eI .u32) none 0 ([] : List Int), box g6 32 [.slice none ([] : List Int).length 0, .slice none ([] : List Int).length 0, .slice none ([] : List Sapi_Sym).length 0], box g2 32 [.slice A0_1 a0.Words.length c0_1, .slice A0_2 a0.Sites.length c0_2, .slice A0_3 a0.Syms.length c0_3]] → rivetlaw12_few.j1 v42 a0 l39 v46 = some o → K44 a w := by
  intro v46 a w hs hw H
  unfold rivetlaw12_few.j1 at H
  refine hK44 _ _ ?_
  refine go_cond hs v46 (fun hc => ?_) fun hc => ?_
  ·replace H := ite_t H hc
   have hb47 := hc
   rw [hb47] at hs
   refine wp_skip ?_
   replace hw := hw.up 9
   replace hw := hw.up 9
   replace hw := hw.up 9
   replace hw := hw.up 9
   replace hw := hw.up 9
   replace hw := hw.up 9
   replace hw := hw.up 9
   replace hw := hw.up 9
   replace hw := hw.up 9
   replace hw := hw.up 9
   exact hJ2 _ _ hs.kx hw H
  ·replace H := ite_f H (ff hc)
   have hb48 := hc
   rw [hb48] at hs
   refine wp_exit ?_
   refine th_exit ?_
   refine th_exit ?_
   refine in_block ?_
   replace hw := hw.up 9
   replace hw := hw.up 9
   replace hw := hw.up 9
   replace hw := hw.up 9
   replace hw := hw.up 9
   replace hw := hw.up 9
   replace hw := hw.up 9
   replace hw := hw.up 9
   replace hw := hw.up 9
   replace hw := hw.up 9
   rw [← hr38 _ (Option.some.inj H).symm] at HX38
   exact hJ3 Aa40 cc41 l39 _ _ hs.kx hw HX38
 refine go_region ?_
 refine go_pvs 2 [] [(21, .int .i64 v42), (22, .pointer (some (⟨g2, 2, none⟩ : Addr)))] hs ?_; clear hs; intro a hs
 refine go_run hs (by rfl) (x_bld (g := g2) (o := 2) (p := (⟨g2, 2, none⟩ : Addr)) (v := .slice A0_3 a0.Syms.length c0_3) (hw.up 9)) [22] ?_; clear hs; intro a hs
 refine go_pvs 6 [21, 23] [(26, .bool (decide (v42 < (a0.Syms.length : Int))))] hs ?_; clear hs; intro a hs
 cases hb45 : (decide (v42 < (a0.Syms.length : Int)))
 ·replace H := ite_f H (of_decide_eq_false hb45)
  rw [hb45] at hs
  refine go_pvs 9 [26] [(29, .bool false)] hs ?_; clear hs; intro a hs
  refine go_end ?_
  replace hw := hw.up 9
  replace hw := hw.up 9
  replace hw := hw.up 9
  replace hw := hw.up 9
  replace hw := hw.up 9
  replace hw := hw.up 9
  replace hw := hw.up 9
  replace hw := hw.up 9
  replace hw := hw.up 9
  replace hw := hw.up 9
  exact hJ1 false _ _ hs.kx hw H
 ·replace H := ite_t H (of_decide_eq_true hb45)
  rw [hb45] at hs
  refine go_pvs 9 [26] [(29, .bool (decide (v42 < 12)))] hs ?_; clear hs; intro a hs
  refine go_end ?_
  replace hw := hw.up 9
  replace hw := hw.up 9
  replace hw := hw.up 9
  replace hw := hw.up 9
  replace hw := hw.up 9
  replace hw := hw.up 9
  replace hw := hw.up 9
  replace hw := hw.up 9
  replace hw := hw.up 9
  replace hw := hw.up 9
  exact hJ1 (decide (v42 < 12)) _ _ hs.kx hw H

/-! rivet/machine.New: function 22 -/
noncomputable def machine_New (a0 : Int) (l1 : List Int) : Option ((Option Smachine_Machine) × Int) := ((memory_New a0).bind fun ⟨t4, t5⟩ => ((match t4 with | none => (if t5 = 0 then ((slices_Clone_uint32_uint32 l1).bind fun t20 => (some ((some (⟨(none : Option Smemory_Memory), (⟨(Vector.replicate 16 0), 0, false, false, false, false⟩ : Sapi_Regs), 0, 0, t20, ([] : List Int)⟩ : Smachine_Machine)), 0))) else some ((none : Option Smachine_Machine), t5)) | some x11 => (if t5 = 0 then ((slices_Clone_uint32_uint32 l1).bind fun t42 => (some ((some (⟨(some x11), (⟨(Vector.replicate 16 0), 0, false, false, false, false⟩ : Sapi_Regs), 0, 0, t42, ([] : List Int)⟩ : Smachine_Machine)), 0))) else some ((none : Option Smachine_Machine), t5)))))
set_option maxRecDepth 100000 in
set_option maxHeartbeats 4000000 in
theorem machine_New.calls (a0 : Int) (A1 : Option Addr) (c1 : Nat) (l1 : List Int) (r : (Option Smachine_Machine) × Int) (w0 : World) (hr1 : Rd w0 (eI .u32) A1 c1 l1) (H : machine_New a0 l1 = some r) :
    Calls Tryd.prog 22 #[.int .i64 a0, .slice A1 l1.length c1] w0 fun e w' => ∃ A_0, e = .returned (.tuple #[.pointer A_0, .int .i64 r.2]) ∧ St [] w0 w' [oM mSmachine_Machine A_0 r.1] := by
 have hw : St [] w0 w0 [] := St.nil w0
 unfold machine_New at H
 refine go_fn Tryd.func22 rfl Tryd.ntmps22 ?_; intro a hs
 refine go_sp [] [] hs ?_; clear hs; intro a hs
 refine go_sk fun K2 hK2 => ?_
 refine go_pvs 1 [0] [(9, .int .i64 a0)] hs ?_; clear hs; intro a hs
 obtain ⟨⟨t4, t5⟩, hx6, H⟩ := bind_some H
 refine go_call hs (by rfl) (memory_New.calls a0 (t4, t5) _ hx6) ?_
 rintro e wd8 ⟨Aa7, rfl, hw9⟩
 refine ⟨_, rfl, ?_⟩
 replace hw := hw.call hw9
 clear hs; intro a hs; replace hs := hs.rms [9]
 rcases t4 with _ | x11
 ·obtain ⟨hAg, hwg⟩ := St.oM_none hw
  clear hw; subst hAg; have hw := hwg; clear hwg
  refine go_pvs 7 [10] [(6, .pointer none), (7, .int .i64 t5)] hs ?_; clear hs; intro a hs
  refine go_end (hK2 _ _ ?_)
  refine go_seq_k fun K12 hK12 => ?_
  refine go_sp [] [(14, .bool (t5 != 0))] hs ?_; clear hs; intro a hs
  refine go_cond hs (t5 != 0) (fun hc => ?_) fun hc => ?_
  ·replace H := ite_f H (bne_iff_ne.1 hc)
   have hb14 := hc
   rw [hb14] at hs
   refine go_sp [1, 6, 7, 14] [(4, .pointer none), (5, .int .i64 t5)] hs ?_; clear hs; intro a hs
   refine wp_ret ?_
   refine th_ret ?_
   obtain rfl := Option.some.inj H
   replace hw := St.oM_nil mSmachine_Machine hw
   refine ret2 (t1 := 4) (v1 := .pointer none) (t2 := 5) (v2 := .int .i64 t5) hs (by kernel_rfl) (by kernel_rfl) (by kernel_rfl) ?_
   exact ⟨none, rfl, hw.only 1⟩
  ·replace H := ite_t H (bne_eq_false_iff_eq.1 hc)
   have hb17 := hc
   rw [hb17] at hs
   refine wp_skip ?_
   refine hK12 _ _ ?_
   refine go_sk fun K18 hK18 => ?_
   refine go_pvs 2 [1, 6, 7, 14] [(16, .pointer none), (17, .slice A1 l1.length c1)] hs ?_; clear hs; intro a hs
   obtain ⟨t20, hx21, H⟩ := bind_some H
   refine go_call hs (by rfl) (slices_Clone_uint32_uint32.calls A1 c1 l1 t20 _ (hr1.old hw) hx21) ?_
   rintro e wd24 ⟨Aa22, cc23, rfl, hw25⟩
   refine ⟨_, rfl, ?_⟩
   replace hw := hw.call hw25
   clear hs; intro a hs; replace hs := hs.rms [17]
   refine go_pvs 4 [16, 18] [(19, .agg #[.pointer none, .int .u32 0, .int .u32 0, .int .u32 0, .int .u32 0, .int .u32 0, .int .u32 0, .int .u32 0, .int .u32 0, .int .u32 0, .int .u32 0, .int .u32 0, .int .u32 0, .int .u32 0, .int .u32 0, .int .u32 0, .int .u32 0, .int .u32 0, .bool false, .bool false, .bool false, .bool false, .int .u32 0, .int .i64 0, .slice Aa22 t20.length cc23, .slice none 0 0])] hs ?_; clear hs; intro a hs
   obtain ⟨g27, wd28, hx29, hw⟩ := x_boxc (P := Tryd.prog) (elem := 55) (v := (Operand.tmp 19)) (ty := 40) (cs := [.pointer none] ++ eSapi_Regs.enc (⟨(Vector.replicate 16 0), 0, false, false, false, false⟩ : Sapi_Regs) ++ [.int .u32 0, .int .i64 0, .slice Aa22 t20.length cc23, .slice none 0 0]) hs hw (by kernel_rfl)
   refine go_run hs (by rfl) hx29 [19] ?_; clear hs; intro a hs
   replace hw := St.own_nil hw 38 (eI .u32)
   replace hw : St [] w0 wd28 [own 38 (eI .u32) none 0 ([] : List Int), box g27 55 ([.pointer none] ++ eSapi_Regs.enc (⟨(Vector.replicate 16 0), 0, false, false, false, false⟩ : Sapi_Regs) ++ [.int .u32 0, .int .i64 0, .slice Aa22 t20.length cc23, .slice none ([] : List Int).length 0]), own 38 (eI .u32) Aa22 cc23 t20] := hw
   refine go_pvs 7 [20] [(4, .pointer (some (⟨g27, 0, none⟩ : Addr))), (5, .int .i64 0)] hs ?_; clear hs; intro a hs
   refine go_end (hK18 _ _ ?_)
   refine wp_ret ?_
   obtain rfl := Option.some.inj H
   replace hw := St.oM_nil mSmemory_Memory hw
   replace hw := hw.up 3
   replace hw := St.rdo_of_own hw
   replace hw := hw.up 2
   replace hw := hw.up 1
   replace hw := hw.up 2
   replace hw := hw.up 3
   replace hw := mSmachine_Machine.close (x := (⟨(none : Option Smemory_Memory), (⟨(Vector.replicate 16 0), 0, false, false, false, false⟩ : Sapi_Regs), 0, 0, t20, ([] : List Int)⟩ : Smachine_Machine)) hw
   refine ret2 (t1 := 4) (v1 := .pointer (some (⟨g27, 0, none⟩ : Addr))) (t2 := 5) (v2 := .int .i64 0) hs (by kernel_rfl) (by kernel_rfl) (by kernel_rfl) ?_
   exact ⟨(some ⟨g27, 0, none⟩), rfl, hw.only 1⟩
 ·replace hw : St [] w0 _ [mSmemory_Memory Aa7 x11] := hw
  obtain ⟨g33, hAg, hwg⟩ := St.one hw
  clear hw; subst hAg; have hw := hwg; clear hwg
  refine go_pvs 7 [10] [(6, .pointer (some (⟨g33, 0, none⟩ : Addr))), (7, .int .i64 t5)] hs ?_; clear hs; intro a hs
  refine go_end (hK2 _ _ ?_)
  refine go_seq_k fun K34 hK34 => ?_
  refine go_sp [] [(14, .bool (t5 != 0))] hs ?_; clear hs; intro a hs
  refine go_cond hs (t5 != 0) (fun hc => ?_) fun hc => ?_
  ·replace H := ite_f H (bne_iff_ne.1 hc)
   have hb36 := hc
   rw [hb36] at hs
   refine go_sp [1, 6, 7, 14] [(4, .pointer none), (5, .int .i64 t5)] hs ?_; clear hs; intro a hs
   refine wp_ret ?_
   refine th_ret ?_
   obtain rfl := Option.some.inj H
   replace hw := St.oM_nil mSmachine_Machine hw
   refine ret2 (t1 := 4) (v1 := .pointer none) (t2 := 5) (v2 := .int .i64 t5) hs (by kernel_rfl) (by kernel_rfl) (by kernel_rfl) ?_
   exact ⟨none, rfl, hw.only 1⟩
  ·replace H := ite_t H (bne_eq_false_iff_eq.1 hc)
   have hb39 := hc
   rw [hb39] at hs
   refine wp_skip ?_
   refine hK34 _ _ ?_
   refine go_sk fun K40 hK40 => ?_
   refine go_pvs 2 [1, 6, 7, 14] [(16, .pointer (some (⟨g33, 0, none⟩ : Addr))), (17, .slice A1 l1.length c1)] hs ?_; clear hs; intro a hs
   obtain ⟨t42, hx43, H⟩ := bind_some H
   refine go_call hs (by rfl) (slices_Clone_uint32_uint32.calls A1 c1 l1 t42 _ (hr1.old hw) hx43) ?_
   rintro e wd46 ⟨Aa44, cc45, rfl, hw47⟩
   refine ⟨_, rfl, ?_⟩
   replace hw := hw.call hw47
   clear hs; intro a hs; replace hs := hs.rms [17]
   refine go_pvs 4 [16, 18] [(19, .agg #[.pointer (some (⟨g33, 0, none⟩ : Addr)), .int .u32 0, .int .u32 0, .int .u32 0, .int .u32 0, .int .u32 0, .int .u32 0, .int .u32 0, .int .u32 0, .int .u32 0, .int .u32 0, .int .u32 0, .int .u32 0, .int .u32 0, .int .u32 0, .int .u32 0, .int .u32 0, .int .u32 0, .bool false, .bool false, .bool false, .bool false, .int .u32 0, .int .i64 0, .slice Aa44 t42.length cc45, .slice none 0 0])] hs ?_; clear hs; intro a hs
   obtain ⟨g49, wd50, hx51, hw⟩ := x_boxc (P := Tryd.prog) (elem := 55) (v := (Operand.tmp 19)) (ty := 40) (cs := [.pointer (some (⟨g33, 0, none⟩ : Addr))] ++ eSapi_Regs.enc (⟨(Vector.replicate 16 0), 0, false, false, false, false⟩ : Sapi_Regs) ++ [.int .u32 0, .int .i64 0, .slice Aa44 t42.length cc45, .slice none 0 0]) hs hw (by kernel_rfl)
   refine go_run hs (by rfl) hx51 [19] ?_; clear hs; intro a hs
   replace hw := St.own_nil hw 38 (eI .u32)
   replace hw : St [] w0 wd50 [own 38 (eI .u32) none 0 ([] : List Int), box g49 55 ([.pointer (some (⟨g33, 0, none⟩ : Addr))] ++ eSapi_Regs.enc (⟨(Vector.replicate 16 0), 0, false, false, false, false⟩ : Sapi_Regs) ++ [.int .u32 0, .int .i64 0, .slice Aa44 t42.length cc45, .slice none ([] : List Int).length 0]), own 38 (eI .u32) Aa44 cc45 t42, own 78 eSmemory_Memory (some (⟨g33, 0, none⟩ : Addr)) 1 [x11]] := hw
   refine go_pvs 7 [20] [(4, .pointer (some (⟨g49, 0, none⟩ : Addr))), (5, .int .i64 0)] hs ?_; clear hs; intro a hs
   refine go_end (hK40 _ _ ?_)
   refine wp_ret ?_
   obtain rfl := Option.some.inj H
   replace hw := hw.up 3
   replace hw := St.oM_of (m := mSmemory_Memory) (A := (some (⟨g33, 0, none⟩ : Addr))) (x := x11) hw
   replace hw := hw.up 3
   replace hw := St.rdo_of_own hw
   replace hw := hw.up 2
   replace hw := hw.up 1
   replace hw := hw.up 2
   replace hw := hw.up 3
   replace hw := mSmachine_Machine.close (x := (⟨(some x11), (⟨(Vector.replicate 16 0), 0, false, false, false, false⟩ : Sapi_Regs), 0, 0, t42, ([] : List Int)⟩ : Smachine_Machine)) hw
   refine ret2 (t1 := 4) (v1 := .pointer (some (⟨g49, 0, none⟩ : Addr))) (t2 := 5) (v2 := .int .i64 0) hs (by kernel_rfl) (by kernel_rfl) (by kernel_rfl) ?_
   exact ⟨(some ⟨g49, 0, none⟩), rfl, hw.only 1⟩

/-! (*rivet/machine.Machine).Start: function 24 -/
noncomputable def machine_Machine_Start (x0 : Smachine_Machine) (a1 : Int) (a2 : Sapi_Regs) : Option Smachine_Machine := ((x0.Memory).bind fun y32 => (some (⟨(some y32), a2, a1, 0, x0.in', x0.out⟩ : Smachine_Machine)))
set_option maxRecDepth 100000 in
set_option maxHeartbeats 4000000 in
theorem machine_Machine_Start.calls (ks0 : List Nat) (A0 : Option Addr) (x0 : Smachine_Machine) (a1 : Int) (a2 : Sapi_Regs) (r : Smachine_Machine) (w0 : World) (hw : St ks0 w0 w0 [mSmachine_Machine A0 x0]) (H : machine_Machine_Start x0 a1 a2 = some r) :
    Calls Tryd.prog 24 #[.pointer A0, .int .u32 a1, .agg (eSapi_Regs.enc a2).toArray] w0 fun e w' => e = .returned (.tuple #[]) ∧ St ks0 w0 w' [mSmachine_Machine A0 r] := by
 unfold machine_Machine_Start at H
 refine go_fn Tryd.func24 rfl Tryd.ntmps24 ?_; intro a hs
 obtain ⟨g1, hAg, hwg⟩ := mSmachine_Machine.addr hw
 clear hw; subst hAg; have hw := hwg; clear hwg
 replace hw : St ks0 w0 _ [mSmachine_Machine (some ⟨g1, 0, none⟩) x0] := hw
 refine go_sk fun K2 hK2 => ?_
 obtain ⟨ad3, wd4, hx5, hw⟩ := x_box1 (P := Tryd.prog) (elem := 50) (v := (Operand.tmp 2)) (ty := 0) hs hw eSapi_Regs a2 (by kernel_rfl)
 refine go_run hs (by rfl) hx5 [2] ?_; clear hs; intro a hs
 refine go_end (hK2 _ _ ?_)
 refine o_region [4, 7, 10, 13] (.two [0, 1, 2, 3, 5, 6] 4 (.one [] 7 (.one [8, 9] 10 (.one [11, 12] 13 (.fin [])))) 7 (.one [] 4 (.one [8, 9] 10 (.one [11, 12] 13 (.fin []))))) (by kernel_rfl) (by kernel_rfl) (fun c a d v w h => by cases d <;> exact h) ?_
 intro wq hbq; replace hw := hw.behind hbq; clear hbq
 refine o_two ?_
 refine c_pvs [0, 1, 2, 3, 5, 6] [] [0, 1] [(7, .pointer (some (⟨g1, 0, none⟩ : Addr))), (8, .pointer (some (⟨g1, 0, none⟩ : Addr))), (9, .int .u32 a1), (12, .pointer (some (⟨g1, 22, none⟩ : Addr)))] hs ?_; clear hs; intro a hs
 refine c_end ⟨?_, ?_⟩
 ·skip
  refine p_run hs (by rfl) (x_lds (off := 0) (p := ad3) (cs := (eSapi_Regs.enc a2)) (Rd.of_own (hw.up 0)) (one_ok a2) (one_at _ _)) [5] ?_; clear hs; intro a hs
  refine c_done ?_
  refine o_one ?_
  refine c_end ?_
  replace hw := hw.up 1
  obtain ⟨Aa24, Aa26, cc27, Aa29, cc30, hw⟩ := mSmachine_Machine.open1 hw
  replace hw : St ks0 w0 _ [box g1 55 ([.pointer Aa24] ++ eSapi_Regs.enc x0.s ++ [.int .u32 x0.pc, .int .i64 x0.status, .slice Aa26 x0.in'.length cc27, .slice Aa29 x0.out.length cc30]), oM mSmemory_Memory Aa24 x0.Memory, rdo (eI .u32) Aa26 cc27 x0.in', own 38 (eI .u32) Aa29 cc30 x0.out, own 50 eSapi_Regs (some ad3) 1 [a2]] := hw
  replace hw := hw.up 1
  obtain ⟨y32, hy33, H⟩ := bind_some H
  replace hw := St.oM_some hw hy33
  obtain ⟨g34, hAg, hwg⟩ := St.one hw
  clear hw; subst hAg; have hw := hwg; clear hwg
  replace hw : St ks0 w0 _ [own 78 eSmemory_Memory (some (⟨g34, 0, none⟩ : Addr)) 1 [y32], box g1 55 ([.pointer (some (⟨g34, 0, none⟩ : Addr))] ++ eSapi_Regs.enc x0.s ++ [.int .u32 x0.pc, .int .i64 x0.status, .slice Aa26 x0.in'.length cc27, .slice Aa29 x0.out.length cc30]), rdo (eI .u32) Aa26 cc27 x0.in', own 38 (eI .u32) Aa29 cc30 x0.out, own 50 eSapi_Regs (some ad3) 1 [a2]] := hw
  replace hw := hw.up 1
  obtain ⟨wd35, hx36, hw⟩ := x_bput (P := Tryd.prog) (ty := 0) (t := 38) (y := (Operand.tmp 12)) (z := (Operand.tmp 9)) (o := 22) (p := (⟨g1, 22, none⟩ : Addr)) (v := .int .u32 a1) (vs := [.int .u32 a1]) (cs' := [.pointer (some (⟨g34, 0, none⟩ : Addr))] ++ eSapi_Regs.enc x0.s ++ [.int .u32 a1, .int .i64 x0.status, .slice Aa26 x0.in'.length cc27, .slice Aa29 x0.out.length cc30]) hs hw (by kernel_rfl) rfl (by kernel_rfl) rfl (by kernel_rfl) (by kernel_rfl) (by simp [Value.oneCell']) (by kernel_rfl)
  refine p_unit hs (by rfl) hx36 [9, 12] ?_; clear hs; intro a hs
  refine c_done ?_
  refine o_one ?_
  refine c_pvs [8, 9] [] [7] [(14, .pointer (some (⟨g1, 1, none⟩ : Addr)))] hs ?_; clear hs; intro a hs
  refine c_end ?_
  obtain ⟨wd37, hx38, hw⟩ := x_bput (P := Tryd.prog) (ty := 0) (t := 50) (y := (Operand.tmp 14)) (z := (Operand.tmp 10)) (o := 1) (p := (⟨g1, 1, none⟩ : Addr)) (v := .agg (eSapi_Regs.enc a2).toArray) (vs := (eSapi_Regs.enc a2)) (cs' := [.pointer (some (⟨g34, 0, none⟩ : Addr))] ++ eSapi_Regs.enc a2 ++ [.int .u32 a1, .int .i64 x0.status, .slice Aa26 x0.in'.length cc27, .slice Aa29 x0.out.length cc30]) hs hw (by kernel_rfl) rfl (by kernel_rfl) rfl (by kernel_rfl) (by kernel_rfl) (eSapi_Regs.one _) (by kernel_rfl)
  refine p_unit hs (by rfl) hx38 [10, 14] ?_; clear hs; intro a hs
  refine c_done ?_
  refine o_one ?_
  refine c_pvs [11, 12] [] [8] [(16, .pointer (some (⟨g1, 23, none⟩ : Addr)))] hs ?_; clear hs; intro a hs
  refine c_end ?_
  obtain ⟨wd39, hx40, hw⟩ := x_bput (P := Tryd.prog) (ty := 0) (t := 3) (y := (Operand.tmp 16)) (z := (Operand.const (Value.int IntKind.i64 0))) (o := 23) (p := (⟨g1, 23, none⟩ : Addr)) (v := .int .i64 0) (vs := [.int .i64 0]) (cs' := [.pointer (some (⟨g34, 0, none⟩ : Addr))] ++ eSapi_Regs.enc a2 ++ [.int .u32 a1, .int .i64 0, .slice Aa26 x0.in'.length cc27, .slice Aa29 x0.out.length cc30]) hs hw (by kernel_rfl) rfl (by kernel_rfl) rfl (by kernel_rfl) (by kernel_rfl) (by simp [Value.oneCell']) (by kernel_rfl)
  refine p_unit hs (by rfl) hx40 [16] ?_; clear hs; intro a hs
  refine c_done ?_
  refine o_fin ?_
  refine c_end ?_
  obtain rfl := Option.some.inj H
  replace hw := hw.up 1
  replace hw := St.oM_of (m := mSmemory_Memory) (A := (some (⟨g34, 0, none⟩ : Addr))) (x := y32) hw
  replace hw := hw.up 3
  replace hw := hw.up 3
  replace hw := hw.up 2
  replace hw := hw.up 3
  replace hw := mSmachine_Machine.close (x := (⟨(some y32), a2, a1, 0, x0.in', x0.out⟩ : Smachine_Machine)) hw
  refine end0 hs (by kernel_rfl) ?_
  exact ⟨rfl, hw.only 1⟩
 ·skip
  replace hw := hw.up 1
  obtain ⟨Aa41, Aa43, cc44, Aa46, cc47, hw⟩ := mSmachine_Machine.open1 hw
  replace hw : St ks0 w0 _ [box g1 55 ([.pointer Aa41] ++ eSapi_Regs.enc x0.s ++ [.int .u32 x0.pc, .int .i64 x0.status, .slice Aa43 x0.in'.length cc44, .slice Aa46 x0.out.length cc47]), oM mSmemory_Memory Aa41 x0.Memory, rdo (eI .u32) Aa43 cc44 x0.in', own 38 (eI .u32) Aa46 cc47 x0.out, own 50 eSapi_Regs (some ad3) 1 [a2]] := hw
  replace hw := hw.up 1
  obtain ⟨y49, hy50, H⟩ := bind_some H
  replace hw := St.oM_some hw hy50
  obtain ⟨g51, hAg, hwg⟩ := St.one hw
  clear hw; subst hAg; have hw := hwg; clear hwg
  replace hw : St ks0 w0 _ [own 78 eSmemory_Memory (some (⟨g51, 0, none⟩ : Addr)) 1 [y49], box g1 55 ([.pointer (some (⟨g51, 0, none⟩ : Addr))] ++ eSapi_Regs.enc x0.s ++ [.int .u32 x0.pc, .int .i64 x0.status, .slice Aa43 x0.in'.length cc44, .slice Aa46 x0.out.length cc47]), rdo (eI .u32) Aa43 cc44 x0.in', own 38 (eI .u32) Aa46 cc47 x0.out, own 50 eSapi_Regs (some ad3) 1 [a2]] := hw
  replace hw := hw.up 1
  obtain ⟨wd52, hx53, hw⟩ := x_bput (P := Tryd.prog) (ty := 0) (t := 38) (y := (Operand.tmp 12)) (z := (Operand.tmp 9)) (o := 22) (p := (⟨g1, 22, none⟩ : Addr)) (v := .int .u32 a1) (vs := [.int .u32 a1]) (cs' := [.pointer (some (⟨g51, 0, none⟩ : Addr))] ++ eSapi_Regs.enc x0.s ++ [.int .u32 a1, .int .i64 x0.status, .slice Aa43 x0.in'.length cc44, .slice Aa46 x0.out.length cc47]) hs hw (by kernel_rfl) rfl (by kernel_rfl) rfl (by kernel_rfl) (by kernel_rfl) (by simp [Value.oneCell']) (by kernel_rfl)
  refine p_unit hs (by rfl) hx53 [9, 12] ?_; clear hs; intro a hs
  refine c_done ?_
  refine o_one ?_
  refine c_end ?_
  refine p_run hs (by rfl) (x_lds (off := 0) (p := ad3) (cs := (eSapi_Regs.enc a2)) (Rd.of_own (hw.up 4)) (one_ok a2) (one_at _ _)) [5] ?_; clear hs; intro a hs
  refine c_done ?_
  refine o_one ?_
  refine c_pvs [8, 9] [] [7] [(14, .pointer (some (⟨g1, 1, none⟩ : Addr)))] hs ?_; clear hs; intro a hs
  refine c_end ?_
  obtain ⟨wd54, hx55, hw⟩ := x_bput (P := Tryd.prog) (ty := 0) (t := 50) (y := (Operand.tmp 14)) (z := (Operand.tmp 10)) (o := 1) (p := (⟨g1, 1, none⟩ : Addr)) (v := .agg (eSapi_Regs.enc a2).toArray) (vs := (eSapi_Regs.enc a2)) (cs' := [.pointer (some (⟨g51, 0, none⟩ : Addr))] ++ eSapi_Regs.enc a2 ++ [.int .u32 a1, .int .i64 x0.status, .slice Aa43 x0.in'.length cc44, .slice Aa46 x0.out.length cc47]) hs hw (by kernel_rfl) rfl (by kernel_rfl) rfl (by kernel_rfl) (by kernel_rfl) (eSapi_Regs.one _) (by kernel_rfl)
  refine p_unit hs (by rfl) hx55 [10, 14] ?_; clear hs; intro a hs
  refine c_done ?_
  refine o_one ?_
  refine c_pvs [11, 12] [] [8] [(16, .pointer (some (⟨g1, 23, none⟩ : Addr)))] hs ?_; clear hs; intro a hs
  refine c_end ?_
  obtain ⟨wd56, hx57, hw⟩ := x_bput (P := Tryd.prog) (ty := 0) (t := 3) (y := (Operand.tmp 16)) (z := (Operand.const (Value.int IntKind.i64 0))) (o := 23) (p := (⟨g1, 23, none⟩ : Addr)) (v := .int .i64 0) (vs := [.int .i64 0]) (cs' := [.pointer (some (⟨g51, 0, none⟩ : Addr))] ++ eSapi_Regs.enc a2 ++ [.int .u32 a1, .int .i64 0, .slice Aa43 x0.in'.length cc44, .slice Aa46 x0.out.length cc47]) hs hw (by kernel_rfl) rfl (by kernel_rfl) rfl (by kernel_rfl) (by kernel_rfl) (by simp [Value.oneCell']) (by kernel_rfl)
  refine p_unit hs (by rfl) hx57 [16] ?_; clear hs; intro a hs
  refine c_done ?_
  refine o_fin ?_
  refine c_end ?_
  obtain rfl := Option.some.inj H
  replace hw := hw.up 1
  replace hw := St.oM_of (m := mSmemory_Memory) (A := (some (⟨g51, 0, none⟩ : Addr))) (x := y49) hw
  replace hw := hw.up 3
  replace hw := hw.up 3
  replace hw := hw.up 2
  replace hw := hw.up 3
  replace hw := mSmachine_Machine.close (x := (⟨(some y49), a2, a1, 0, x0.in', x0.out⟩ : Smachine_Machine)) hw
  refine end0 hs (by kernel_rfl) ?_
  exact ⟨rfl, hw.only 1⟩

/-! (*rivet/machine.Machine).Status: function 21 -/
noncomputable def machine_Machine_Status (x0 : Smachine_Machine) : Option Int := some x0.status
set_option maxRecDepth 100000 in
set_option maxHeartbeats 4000000 in
theorem machine_Machine_Status.calls (A0 : Option Addr) (x0 : Smachine_Machine) (r : Int) (w0 : World) (hr0 : rSmachine_Machine w0 A0 x0) (H : machine_Machine_Status x0 = some r) :
    Calls Tryd.prog 21 #[.pointer A0] w0 fun e w' => e = .returned (.int .i64 r) ∧ St [] w0 w' [] := by
 have hw : St [] w0 w0 [] := St.nil w0
 unfold machine_Machine_Status at H
 refine go_fn Tryd.func21 rfl Tryd.ntmps21 ?_; intro a hs
 have hk3 := hr0; obtain ⟨g1, Aa5, Aa8, cc9, Aa12, cc13, hA4, hrx2, hr6, hr10, hr14⟩ := hr0; subst hA4
 refine go_sp [] [(0, .pointer (some (⟨g1, 0, none⟩ : Addr)))] hs ?_; clear hs; intro a hs
 refine go_sk fun K17 hK17 => ?_
 refine go_pvs 3 [0] [(5, .pointer (some (⟨g1, 23, none⟩ : Addr)))] hs ?_; clear hs; intro a hs
 refine go_run hs (by rfl) (x_rld (g := g1) (o := 23) (p := (⟨g1, 23, none⟩ : Addr)) (v := .int .i64 x0.status) (hrx2.old hw)) [5] ?_; clear hs; intro a hs
 refine go_pvs 5 [6] [(2, .int .i64 x0.status)] hs ?_; clear hs; intro a hs
 refine go_end (hK17 _ _ ?_)
 refine wp_ret ?_
 obtain rfl := Option.some.inj H
 refine ret1 (t := 2) (v := .int .i64 x0.status) hs (by kernel_rfl) (by kernel_rfl) ?_
 exact ⟨rfl, hw.only 0⟩

/-! (*rivet/machine.Machine).PC: function 20 -/
noncomputable def machine_Machine_PC (x0 : Smachine_Machine) : Option Int := some x0.pc
set_option maxRecDepth 100000 in
set_option maxHeartbeats 4000000 in
theorem machine_Machine_PC.calls (A0 : Option Addr) (x0 : Smachine_Machine) (r : Int) (w0 : World) (hr0 : rSmachine_Machine w0 A0 x0) (H : machine_Machine_PC x0 = some r) :
    Calls Tryd.prog 20 #[.pointer A0] w0 fun e w' => e = .returned (.int .u32 r) ∧ St [] w0 w' [] := by
 have hw : St [] w0 w0 [] := St.nil w0
 unfold machine_Machine_PC at H
 refine go_fn Tryd.func20 rfl Tryd.ntmps20 ?_; intro a hs
 have hk3 := hr0; obtain ⟨g1, Aa5, Aa8, cc9, Aa12, cc13, hA4, hrx2, hr6, hr10, hr14⟩ := hr0; subst hA4
 refine go_sp [] [(0, .pointer (some (⟨g1, 0, none⟩ : Addr)))] hs ?_; clear hs; intro a hs
 refine go_sk fun K17 hK17 => ?_
 refine go_pvs 3 [0] [(5, .pointer (some (⟨g1, 22, none⟩ : Addr)))] hs ?_; clear hs; intro a hs
 refine go_run hs (by rfl) (x_rld (g := g1) (o := 22) (p := (⟨g1, 22, none⟩ : Addr)) (v := .int .u32 x0.pc) (hrx2.old hw)) [5] ?_; clear hs; intro a hs
 refine go_pvs 5 [6] [(2, .int .u32 x0.pc)] hs ?_; clear hs; intro a hs
 refine go_end (hK17 _ _ ?_)
 refine wp_ret ?_
 obtain rfl := Option.some.inj H
 refine ret1 (t := 2) (v := .int .u32 x0.pc) hs (by kernel_rfl) (by kernel_rfl) ?_
 exact ⟨rfl, hw.only 0⟩

/-! (*rivet/machine.Machine).Regs: function 19 -/
noncomputable def machine_Machine_Regs (x0 : Smachine_Machine) : Option Sapi_Regs := some (x0.s : Sapi_Regs)
set_option maxRecDepth 100000 in
set_option maxHeartbeats 4000000 in
theorem machine_Machine_Regs.calls (A0 : Option Addr) (x0 : Smachine_Machine) (r : Sapi_Regs) (w0 : World) (hr0 : rSmachine_Machine w0 A0 x0) (H : machine_Machine_Regs x0 = some r) :
    Calls Tryd.prog 19 #[.pointer A0] w0 fun e w' => e = .returned (.agg (eSapi_Regs.enc r).toArray) ∧ St [] w0 w' [] := by
 have hw : St [] w0 w0 [] := St.nil w0
 unfold machine_Machine_Regs at H
 refine go_fn Tryd.func19 rfl Tryd.ntmps19 ?_; intro a hs
 have hk3 := hr0; obtain ⟨g1, Aa5, Aa8, cc9, Aa12, cc13, hA4, hrx2, hr6, hr10, hr14⟩ := hr0; subst hA4
 refine go_sk fun K16 hK16 => ?_
 obtain ⟨ad17, wd18, hx19, hw⟩ := x_alloc1 (P := Tryd.prog) (elem := 50) (ty := 0) (z := .agg (eSapi_Regs.enc (⟨(Vector.replicate 16 0), 0, false, false, false, false⟩ : Sapi_Regs)).toArray) hs hw eSapi_Regs (⟨(Vector.replicate 16 0), 0, false, false, false, false⟩ : Sapi_Regs) (by kernel_rfl) (by kernel_rfl)
 refine go_run hs (by rfl) hx19 [] ?_; clear hs; intro a hs
 refine go_end (hK16 _ _ ?_)
 refine go_sk fun K21 hK21 => ?_
 refine go_pvs 3 [0] [(5, .pointer (some (⟨g1, 1, none⟩ : Addr)))] hs ?_; clear hs; intro a hs
 refine go_run hs (by rfl) (x_rlds (g := g1) (o := 1) (p := (⟨g1, 1, none⟩ : Addr)) (vs := (eSapi_Regs.enc x0.s)) (hrx2.old hw)) [5] ?_; clear hs; intro a hs
 obtain ⟨wd22, hx23, hw⟩ := x_put (P := Tryd.prog) (ty := 0) (t := 50) (x := (Operand.tmp 2)) (y := (Operand.tmp 6)) (off := 0) (p := ad17) (v := .agg (eSapi_Regs.enc x0.s).toArray) (vs := (eSapi_Regs.enc x0.s)) (i := 0) (e' := ((x0.s : Sapi_Regs) : Sapi_Regs)) hs hw rfl (one_ok (⟨(Vector.replicate 16 0), 0, false, false, false, false⟩ : Sapi_Regs)).1 (one_ok (⟨(Vector.replicate 16 0), 0, false, false, false, false⟩ : Sapi_Regs)).2 (by kernel_rfl) (one_at _ _) (by kernel_rfl) rfl (by kernel_rfl) (Nat.le_of_ble_eq_true rfl) (eSapi_Regs.one _) (by kernel_rfl)
 refine go_unit hs (by rfl) hx23 [6] ?_; clear hs; intro a hs
 replace hw : St [] w0 wd22 [own 50 eSapi_Regs (some ad17) 1 [(x0.s : Sapi_Regs)]] := hw
 refine go_end (hK21 _ _ ?_)
 refine wp_ret ?_
 obtain rfl := Option.some.inj H
 replace hs : Slots a 7 [(2, .pointer (some ad17))] := hs.kx
 refine ret1g (L := [(2, .pointer (some ad17))]) (r1 := .cell 2 50) (v1 := .agg (eSapi_Regs.enc (x0.s : Sapi_Regs)).toArray) hs (by kernel_rfl) ⟨_, (show lk 2 [(2, .pointer (some ad17))] = some (.pointer (some ad17)) by kernel_rfl), lv_row (E := eSapi_Regs) (x := (x0.s : Sapi_Regs)) (by kernel_rfl) (by kernel_rfl) (Rd.of_own (hw.up 0))⟩ ?_
 exact ⟨rfl, hw.only 0⟩

/-! (*rivet/machine.Machine).Out: function 25 -/
noncomputable def machine_Machine_Out (x0 : Smachine_Machine) : Option (List Int) := ((slices_Clone_uint32_uint32 x0.out).bind fun t19 => (some t19))
set_option maxRecDepth 100000 in
set_option maxHeartbeats 4000000 in
theorem machine_Machine_Out.calls (A0 : Option Addr) (x0 : Smachine_Machine) (r : (List Int)) (w0 : World) (hr0 : rSmachine_Machine w0 A0 x0) (H : machine_Machine_Out x0 = some r) :
    Calls Tryd.prog 25 #[.pointer A0] w0 fun e w' => ∃ A_0 c_0, e = .returned (.slice A_0 r.length c_0) ∧ St [] w0 w' [own 38 (eI .u32) A_0 c_0 r] := by
 have hw : St [] w0 w0 [] := St.nil w0
 unfold machine_Machine_Out at H
 refine go_fn Tryd.func25 rfl Tryd.ntmps25 ?_; intro a hs
 have hk3 := hr0; obtain ⟨g1, Aa5, Aa8, cc9, Aa12, cc13, hA4, hrx2, hr6, hr10, hr14⟩ := hr0; subst hA4
 refine go_sp [] [(0, .pointer (some (⟨g1, 0, none⟩ : Addr)))] hs ?_; clear hs; intro a hs
 refine go_sk fun K17 hK17 => ?_
 refine go_pvs 3 [0] [(5, .pointer (some (⟨g1, 25, none⟩ : Addr)))] hs ?_; clear hs; intro a hs
 refine go_run hs (by rfl) (x_rld (g := g1) (o := 25) (p := (⟨g1, 25, none⟩ : Addr)) (v := .slice Aa12 x0.out.length cc13) (hrx2.old hw)) [5] ?_; clear hs; intro a hs
 obtain ⟨t19, hx20, H⟩ := bind_some H
 refine go_call hs (by rfl) (slices_Clone_uint32_uint32.calls Aa12 cc13 x0.out t19 _ (hr14.old hw) hx20) ?_
 rintro e wd23 ⟨Aa21, cc22, rfl, hw24⟩
 refine ⟨_, rfl, ?_⟩
 replace hw := hw.call hw24
 clear hs; intro a hs; replace hs := hs.rms [6]
 refine go_pvs 6 [7] [(2, .slice Aa21 t19.length cc22)] hs ?_; clear hs; intro a hs
 refine go_end (hK17 _ _ ?_)
 refine wp_ret ?_
 obtain rfl := Option.some.inj H
 refine ret1 (t := 2) (v := .slice Aa21 t19.length cc22) hs (by kernel_rfl) (by kernel_rfl) ?_
 exact ⟨Aa21, cc22, rfl, hw.only 1⟩

/-! rivet/rivetref06.New: function 30 -/
noncomputable def rivetref06_New (a0 : Int) (l1 : List Int) : Option ((Option Srivetref06_Machine) × Int) := ((rivetref05_New a0).bind fun ⟨t4, t5⟩ => ((match t4 with | none => (if t5 = 0 then (if ([] : List Int).length + l1.length ≤ 35184372088832 then some ((some (⟨(none : Option Srivetref05_Memory), (⟨(Vector.replicate 16 0), 0, false, false, false, false⟩ : Sapi_Regs), 0, 0, ([] : List Int) ++ l1, ([] : List Int)⟩ : Srivetref06_Machine)), 0) else none) else some ((none : Option Srivetref06_Machine), t5)) | some x11 => (if t5 = 0 then (if ([] : List Int).length + l1.length ≤ 35184372088832 then some ((some (⟨(some x11), (⟨(Vector.replicate 16 0), 0, false, false, false, false⟩ : Sapi_Regs), 0, 0, ([] : List Int) ++ l1, ([] : List Int)⟩ : Srivetref06_Machine)), 0) else none) else some ((none : Option Srivetref06_Machine), t5)))))
set_option maxRecDepth 100000 in
set_option maxHeartbeats 4000000 in
theorem rivetref06_New.calls (a0 : Int) (A1 : Option Addr) (c1 : Nat) (l1 : List Int) (r : (Option Srivetref06_Machine) × Int) (w0 : World) (hr1 : Rd w0 (eI .u32) A1 c1 l1) (H : rivetref06_New a0 l1 = some r) :
    Calls Tryd.prog 30 #[.int .i64 a0, .slice A1 l1.length c1] w0 fun e w' => ∃ A_0, e = .returned (.tuple #[.pointer A_0, .int .i64 r.2]) ∧ St [] w0 w' [oM mSrivetref06_Machine A_0 r.1] := by
 have hw : St [] w0 w0 [] := St.nil w0
 unfold rivetref06_New at H
 refine go_fn Tryd.func30 rfl Tryd.ntmps30 ?_; intro a hs
 refine go_sp [] [] hs ?_; clear hs; intro a hs
 refine go_sk fun K2 hK2 => ?_
 refine go_pvs 1 [0] [(9, .int .i64 a0)] hs ?_; clear hs; intro a hs
 obtain ⟨⟨t4, t5⟩, hx6, H⟩ := bind_some H
 refine go_call hs (by rfl) (rivetref05_New.calls a0 (t4, t5) _ hx6) ?_
 rintro e wd8 ⟨Aa7, rfl, hw9⟩
 refine ⟨_, rfl, ?_⟩
 replace hw := hw.call hw9
 clear hs; intro a hs; replace hs := hs.rms [9]
 rcases t4 with _ | x11
 ·obtain ⟨hAg, hwg⟩ := St.oM_none hw
  clear hw; subst hAg; have hw := hwg; clear hwg
  refine go_pvs 7 [10] [(6, .pointer none), (7, .int .i64 t5)] hs ?_; clear hs; intro a hs
  refine go_end (hK2 _ _ ?_)
  refine go_seq_k fun K12 hK12 => ?_
  refine go_sp [] [(14, .bool (t5 != 0))] hs ?_; clear hs; intro a hs
  refine go_cond hs (t5 != 0) (fun hc => ?_) fun hc => ?_
  ·replace H := ite_f H (bne_iff_ne.1 hc)
   have hb14 := hc
   rw [hb14] at hs
   refine go_sp [1, 6, 7, 14] [(4, .pointer none), (5, .int .i64 t5)] hs ?_; clear hs; intro a hs
   refine wp_ret ?_
   refine th_ret ?_
   obtain rfl := Option.some.inj H
   replace hw := St.oM_nil mSrivetref06_Machine hw
   refine ret2 (t1 := 4) (v1 := .pointer none) (t2 := 5) (v2 := .int .i64 t5) hs (by kernel_rfl) (by kernel_rfl) (by kernel_rfl) ?_
   exact ⟨none, rfl, hw.only 1⟩
  ·replace H := ite_t H (bne_eq_false_iff_eq.1 hc)
   have hb17 := hc
   rw [hb17] at hs
   refine wp_skip ?_
   refine hK12 _ _ ?_
   refine go_sk fun K18 hK18 => ?_
   refine go_pvs 1 [6, 7, 14] [(16, .pointer none)] hs ?_; clear hs; intro a hs
   obtain ⟨Aa19, cc20, wd21, hx22, hw⟩ := n_lit0 (P := Tryd.prog) (t := 22) (ty := 22) (T := 38) hs hw (eI .u32) (by kernel_rfl) (by kernel_rfl)
   refine go_run hs (by rfl) hx22 [] ?_; clear hs; intro a hs
   refine go_pvs 3 [1] [(18, .slice A1 l1.length c1)] hs ?_; clear hs; intro a hs
   obtain ⟨hp24, H⟩ := ite_only H
   have hsrc29 : Src Tryd.prog (eI .u32).sz 22 (.slice A1 l1.length c1) l1.length (l1.flatMap (eI .u32).enc) _ := (Src.of_rd (E := (eI .u32)) (e' := 38) (by kernel_rfl) (hr1.old hw))
   obtain ⟨Aa25, cc26, wd27, hx28, hw⟩ := x_append (P := Tryd.prog) (t := 22) (tx := 22) (ty := 22) (x := (Operand.tmp 17)) (y := (Operand.tmp 18)) (z := .int .u32 0) (bytes := 4) (l2 := l1) hs hw (by kernel_rfl) (by kernel_rfl) (by kernel_rfl) (by kernel_rfl) (by kernel_rfl) hsrc29 (by omega) (by omega)
   refine go_run hs (by rfl) hx28 [17, 18] ?_; clear hs; intro a hs
   refine go_pvs 5 [16, 19] [(20, .agg #[.pointer none, .int .u32 0, .int .u32 0, .int .u32 0, .int .u32 0, .int .u32 0, .int .u32 0, .int .u32 0, .int .u32 0, .int .u32 0, .int .u32 0, .int .u32 0, .int .u32 0, .int .u32 0, .int .u32 0, .int .u32 0, .int .u32 0, .int .u32 0, .bool false, .bool false, .bool false, .bool false, .int .u32 0, .int .i64 0, .slice Aa25 (([] : List Int) ++ l1).length cc26, .slice none 0 0])] hs ?_; clear hs; intro a hs
   obtain ⟨g30, wd31, hx32, hw⟩ := x_boxc (P := Tryd.prog) (elem := 58) (v := (Operand.tmp 20)) (ty := 45) (cs := [.pointer none] ++ eSapi_Regs.enc (⟨(Vector.replicate 16 0), 0, false, false, false, false⟩ : Sapi_Regs) ++ [.int .u32 0, .int .i64 0, .slice Aa25 (([] : List Int) ++ l1).length cc26, .slice none 0 0]) hs hw (by kernel_rfl)
   refine go_run hs (by rfl) hx32 [20] ?_; clear hs; intro a hs
   replace hw := St.own_nil hw 38 (eI .u32)
   replace hw : St [] w0 wd31 [own 38 (eI .u32) none 0 ([] : List Int), box g30 58 ([.pointer none] ++ eSapi_Regs.enc (⟨(Vector.replicate 16 0), 0, false, false, false, false⟩ : Sapi_Regs) ++ [.int .u32 0, .int .i64 0, .slice Aa25 (([] : List Int) ++ l1).length cc26, .slice none ([] : List Int).length 0]), own 38 (eI .u32) Aa25 cc26 (([] : List Int) ++ l1)] := hw
   refine go_pvs 8 [21] [(4, .pointer (some (⟨g30, 0, none⟩ : Addr))), (5, .int .i64 0)] hs ?_; clear hs; intro a hs
   refine go_end (hK18 _ _ ?_)
   refine wp_ret ?_
   obtain rfl := Option.some.inj H
   replace hw := St.oM_nil mSrivetref05_Memory hw
   replace hw := hw.up 3
   replace hw := St.rdo_of_own hw
   replace hw := hw.up 2
   replace hw := hw.up 1
   replace hw := hw.up 2
   replace hw := hw.up 3
   replace hw := mSrivetref06_Machine.close (x := (⟨(none : Option Srivetref05_Memory), (⟨(Vector.replicate 16 0), 0, false, false, false, false⟩ : Sapi_Regs), 0, 0, ([] : List Int) ++ l1, ([] : List Int)⟩ : Srivetref06_Machine)) hw
   refine ret2 (t1 := 4) (v1 := .pointer (some (⟨g30, 0, none⟩ : Addr))) (t2 := 5) (v2 := .int .i64 0) hs (by kernel_rfl) (by kernel_rfl) (by kernel_rfl) ?_
   exact ⟨(some ⟨g30, 0, none⟩), rfl, hw.only 1⟩
 ·replace hw : St [] w0 _ [mSrivetref05_Memory Aa7 x11] := hw
  obtain ⟨g36, Aa37, cc38, hAg, hwg⟩ := mSrivetref05_Memory.open hw
  clear hw; subst hAg; have hw := hwg; clear hwg
  replace hw : St [] w0 _ [box g36 80 [.slice Aa37 x11.B.length cc38], own 5 (eI .u8) Aa37 cc38 x11.B] := hw
  refine go_pvs 7 [10] [(6, .pointer (some (⟨g36, 0, none⟩ : Addr))), (7, .int .i64 t5)] hs ?_; clear hs; intro a hs
  refine go_end (hK2 _ _ ?_)
  refine go_seq_k fun K40 hK40 => ?_
  refine go_sp [] [(14, .bool (t5 != 0))] hs ?_; clear hs; intro a hs
  refine go_cond hs (t5 != 0) (fun hc => ?_) fun hc => ?_
  ·replace H := ite_f H (bne_iff_ne.1 hc)
   have hb42 := hc
   rw [hb42] at hs
   refine go_sp [1, 6, 7, 14] [(4, .pointer none), (5, .int .i64 t5)] hs ?_; clear hs; intro a hs
   refine wp_ret ?_
   refine th_ret ?_
   obtain rfl := Option.some.inj H
   replace hw := St.oM_nil mSrivetref06_Machine hw
   refine ret2 (t1 := 4) (v1 := .pointer none) (t2 := 5) (v2 := .int .i64 t5) hs (by kernel_rfl) (by kernel_rfl) (by kernel_rfl) ?_
   exact ⟨none, rfl, hw.only 1⟩
  ·replace H := ite_t H (bne_eq_false_iff_eq.1 hc)
   have hb45 := hc
   rw [hb45] at hs
   refine wp_skip ?_
   refine hK40 _ _ ?_
   refine go_sk fun K46 hK46 => ?_
   refine go_pvs 1 [6, 7, 14] [(16, .pointer (some (⟨g36, 0, none⟩ : Addr)))] hs ?_; clear hs; intro a hs
   obtain ⟨Aa47, cc48, wd49, hx50, hw⟩ := n_lit0 (P := Tryd.prog) (t := 22) (ty := 22) (T := 38) hs hw (eI .u32) (by kernel_rfl) (by kernel_rfl)
   refine go_run hs (by rfl) hx50 [] ?_; clear hs; intro a hs
   refine go_pvs 3 [1] [(18, .slice A1 l1.length c1)] hs ?_; clear hs; intro a hs
   obtain ⟨hp52, H⟩ := ite_only H
   have hsrc57 : Src Tryd.prog (eI .u32).sz 22 (.slice A1 l1.length c1) l1.length (l1.flatMap (eI .u32).enc) _ := (Src.of_rd (E := (eI .u32)) (e' := 38) (by kernel_rfl) (hr1.old hw))
   obtain ⟨Aa53, cc54, wd55, hx56, hw⟩ := x_append (P := Tryd.prog) (t := 22) (tx := 22) (ty := 22) (x := (Operand.tmp 17)) (y := (Operand.tmp 18)) (z := .int .u32 0) (bytes := 4) (l2 := l1) hs hw (by kernel_rfl) (by kernel_rfl) (by kernel_rfl) (by kernel_rfl) (by kernel_rfl) hsrc57 (by omega) (by omega)
   refine go_run hs (by rfl) hx56 [17, 18] ?_; clear hs; intro a hs
   refine go_pvs 5 [16, 19] [(20, .agg #[.pointer (some (⟨g36, 0, none⟩ : Addr)), .int .u32 0, .int .u32 0, .int .u32 0, .int .u32 0, .int .u32 0, .int .u32 0, .int .u32 0, .int .u32 0, .int .u32 0, .int .u32 0, .int .u32 0, .int .u32 0, .int .u32 0, .int .u32 0, .int .u32 0, .int .u32 0, .int .u32 0, .bool false, .bool false, .bool false, .bool false, .int .u32 0, .int .i64 0, .slice Aa53 (([] : List Int) ++ l1).length cc54, .slice none 0 0])] hs ?_; clear hs; intro a hs
   obtain ⟨g58, wd59, hx60, hw⟩ := x_boxc (P := Tryd.prog) (elem := 58) (v := (Operand.tmp 20)) (ty := 45) (cs := [.pointer (some (⟨g36, 0, none⟩ : Addr))] ++ eSapi_Regs.enc (⟨(Vector.replicate 16 0), 0, false, false, false, false⟩ : Sapi_Regs) ++ [.int .u32 0, .int .i64 0, .slice Aa53 (([] : List Int) ++ l1).length cc54, .slice none 0 0]) hs hw (by kernel_rfl)
   refine go_run hs (by rfl) hx60 [20] ?_; clear hs; intro a hs
   replace hw := St.own_nil hw 38 (eI .u32)
   replace hw : St [] w0 wd59 [own 38 (eI .u32) none 0 ([] : List Int), box g58 58 ([.pointer (some (⟨g36, 0, none⟩ : Addr))] ++ eSapi_Regs.enc (⟨(Vector.replicate 16 0), 0, false, false, false, false⟩ : Sapi_Regs) ++ [.int .u32 0, .int .i64 0, .slice Aa53 (([] : List Int) ++ l1).length cc54, .slice none ([] : List Int).length 0]), own 38 (eI .u32) Aa53 cc54 (([] : List Int) ++ l1), box g36 80 [.slice Aa37 x11.B.length cc38], own 5 (eI .u8) Aa37 cc38 x11.B] := hw
   refine go_pvs 8 [21] [(4, .pointer (some (⟨g58, 0, none⟩ : Addr))), (5, .int .i64 0)] hs ?_; clear hs; intro a hs
   refine go_end (hK46 _ _ ?_)
   refine wp_ret ?_
   obtain rfl := Option.some.inj H
   replace hw := hw.up 4
   replace hw := hw.up 4
   replace hw := mSrivetref05_Memory.close (x := x11) hw
   replace hw := St.oM_of (m := mSrivetref05_Memory) (A := (some ⟨g36, 0, none⟩)) (x := x11) hw
   replace hw := hw.up 3
   replace hw := St.rdo_of_own hw
   replace hw := hw.up 2
   replace hw := hw.up 1
   replace hw := hw.up 2
   replace hw := hw.up 3
   replace hw := mSrivetref06_Machine.close (x := (⟨(some x11), (⟨(Vector.replicate 16 0), 0, false, false, false, false⟩ : Sapi_Regs), 0, 0, ([] : List Int) ++ l1, ([] : List Int)⟩ : Srivetref06_Machine)) hw
   refine ret2 (t1 := 4) (v1 := .pointer (some (⟨g58, 0, none⟩ : Addr))) (t2 := 5) (v2 := .int .i64 0) hs (by kernel_rfl) (by kernel_rfl) (by kernel_rfl) ?_
   exact ⟨(some ⟨g58, 0, none⟩), rfl, hw.only 1⟩

/-! (*rivet/rivetref06.Machine).Start: function 32 -/
noncomputable def rivetref06_Machine_Start (x0 : Srivetref06_Machine) (a1 : Int) (a2 : Sapi_Regs) : Option Srivetref06_Machine := ((x0.M).bind fun y16 => (some (⟨(some y16), a2, a1, 0, x0.In, x0.Out⟩ : Srivetref06_Machine)))
set_option maxRecDepth 100000 in
set_option maxHeartbeats 4000000 in
theorem rivetref06_Machine_Start.calls (ks0 : List Nat) (A0 : Option Addr) (x0 : Srivetref06_Machine) (a1 : Int) (a2 : Sapi_Regs) (r : Srivetref06_Machine) (w0 : World) (hw : St ks0 w0 w0 [mSrivetref06_Machine A0 x0]) (H : rivetref06_Machine_Start x0 a1 a2 = some r) :
    Calls Tryd.prog 32 #[.pointer A0, .int .u32 a1, .agg (eSapi_Regs.enc a2).toArray] w0 fun e w' => e = .returned (.tuple #[]) ∧ St ks0 w0 w' [mSrivetref06_Machine A0 r] := by
 unfold rivetref06_Machine_Start at H
 refine go_fn Tryd.func32 rfl Tryd.ntmps32 ?_; intro a hs
 obtain ⟨g1, hAg, hwg⟩ := mSrivetref06_Machine.addr hw
 clear hw; subst hAg; have hw := hwg; clear hwg
 replace hw : St ks0 w0 _ [mSrivetref06_Machine (some ⟨g1, 0, none⟩) x0] := hw
 refine go_sk fun K2 hK2 => ?_
 obtain ⟨ad3, wd4, hx5, hw⟩ := x_box1 (P := Tryd.prog) (elem := 50) (v := (Operand.tmp 2)) (ty := 0) hs hw eSapi_Regs a2 (by kernel_rfl)
 refine go_run hs (by rfl) hx5 [2] ?_; clear hs; intro a hs
 refine go_end (hK2 _ _ ?_)
 refine go_sk fun K7 hK7 => ?_
 refine go_pvs 4 [1] [(7, .int .u32 a1), (9, .pointer (some (⟨g1, 22, none⟩ : Addr)))] hs ?_; clear hs; intro a hs
 replace hw := hw.up 1
 obtain ⟨Aa8, Aa10, cc11, Aa13, cc14, hw⟩ := mSrivetref06_Machine.open1 hw
 replace hw : St ks0 w0 _ [box g1 58 ([.pointer Aa8] ++ eSapi_Regs.enc x0.S ++ [.int .u32 x0.PC, .int .i64 x0.Status, .slice Aa10 x0.In.length cc11, .slice Aa13 x0.Out.length cc14]), oM mSrivetref05_Memory Aa8 x0.M, rdo (eI .u32) Aa10 cc11 x0.In, own 38 (eI .u32) Aa13 cc14 x0.Out, own 50 eSapi_Regs (some ad3) 1 [a2]] := hw
 replace hw := hw.up 1
 obtain ⟨y16, hy17, H⟩ := bind_some H
 replace hw := St.oM_some hw hy17
 obtain ⟨g18, hAg, hwg⟩ := mSrivetref05_Memory.addr hw
 clear hw; subst hAg; have hw := hwg; clear hwg
 replace hw : St ks0 w0 _ [mSrivetref05_Memory (some ⟨g18, 0, none⟩) y16, box g1 58 ([.pointer (some ⟨g18, 0, none⟩)] ++ eSapi_Regs.enc x0.S ++ [.int .u32 x0.PC, .int .i64 x0.Status, .slice Aa10 x0.In.length cc11, .slice Aa13 x0.Out.length cc14]), rdo (eI .u32) Aa10 cc11 x0.In, own 38 (eI .u32) Aa13 cc14 x0.Out, own 50 eSapi_Regs (some ad3) 1 [a2]] := hw
 replace hw : St ks0 w0 _ [mSrivetref05_Memory (some ⟨g18, 0, none⟩) y16, box g1 58 ([.pointer (some (⟨g18, 0, none⟩ : Addr))] ++ eSapi_Regs.enc x0.S ++ [.int .u32 x0.PC, .int .i64 x0.Status, .slice Aa10 x0.In.length cc11, .slice Aa13 x0.Out.length cc14]), rdo (eI .u32) Aa10 cc11 x0.In, own 38 (eI .u32) Aa13 cc14 x0.Out, own 50 eSapi_Regs (some ad3) 1 [a2]] := hw
 replace hw := hw.up 1
 obtain ⟨wd19, hx20, hw⟩ := x_bput (P := Tryd.prog) (ty := 0) (t := 38) (y := (Operand.tmp 9)) (z := (Operand.tmp 7)) (o := 22) (p := (⟨g1, 22, none⟩ : Addr)) (v := .int .u32 a1) (vs := [.int .u32 a1]) (cs' := [.pointer (some (⟨g18, 0, none⟩ : Addr))] ++ eSapi_Regs.enc x0.S ++ [.int .u32 a1, .int .i64 x0.Status, .slice Aa10 x0.In.length cc11, .slice Aa13 x0.Out.length cc14]) hs hw (by kernel_rfl) rfl (by kernel_rfl) rfl (by kernel_rfl) (by kernel_rfl) (by simp [Value.oneCell']) (by kernel_rfl)
 refine go_unit hs (by rfl) hx20 [7, 9] ?_; clear hs; intro a hs
 refine go_end (hK7 _ _ ?_)
 refine go_sk fun K21 hK21 => ?_
 refine go_pvs 1 [] [(10, .pointer (some (⟨g1, 0, none⟩ : Addr)))] hs ?_; clear hs; intro a hs
 refine go_run hs (by rfl) (x_lds (off := 0) (p := ad3) (cs := (eSapi_Regs.enc a2)) (Rd.of_own (hw.up 4)) (one_ok a2) (one_at _ _)) [5] ?_; clear hs; intro a hs
 refine go_pvs 4 [10] [(13, .pointer (some (⟨g1, 1, none⟩ : Addr)))] hs ?_; clear hs; intro a hs
 obtain ⟨wd22, hx23, hw⟩ := x_bput (P := Tryd.prog) (ty := 0) (t := 50) (y := (Operand.tmp 13)) (z := (Operand.tmp 11)) (o := 1) (p := (⟨g1, 1, none⟩ : Addr)) (v := .agg (eSapi_Regs.enc a2).toArray) (vs := (eSapi_Regs.enc a2)) (cs' := [.pointer (some (⟨g18, 0, none⟩ : Addr))] ++ eSapi_Regs.enc a2 ++ [.int .u32 a1, .int .i64 x0.Status, .slice Aa10 x0.In.length cc11, .slice Aa13 x0.Out.length cc14]) hs hw (by kernel_rfl) rfl (by kernel_rfl) rfl (by kernel_rfl) (by kernel_rfl) (eSapi_Regs.one _) (by kernel_rfl)
 refine go_unit hs (by rfl) hx23 [11, 13] ?_; clear hs; intro a hs
 refine go_end (hK21 _ _ ?_)
 refine go_region ?_
 refine go_pvs 3 [0] [(16, .pointer (some (⟨g1, 23, none⟩ : Addr)))] hs ?_; clear hs; intro a hs
 obtain ⟨wd24, hx25, hw⟩ := x_bput (P := Tryd.prog) (ty := 0) (t := 3) (y := (Operand.tmp 16)) (z := (Operand.const (Value.int IntKind.i64 0))) (o := 23) (p := (⟨g1, 23, none⟩ : Addr)) (v := .int .i64 0) (vs := [.int .i64 0]) (cs' := [.pointer (some (⟨g18, 0, none⟩ : Addr))] ++ eSapi_Regs.enc a2 ++ [.int .u32 a1, .int .i64 0, .slice Aa10 x0.In.length cc11, .slice Aa13 x0.Out.length cc14]) hs hw (by kernel_rfl) rfl (by kernel_rfl) rfl (by kernel_rfl) (by kernel_rfl) (by simp [Value.oneCell']) (by kernel_rfl)
 refine go_unit hs (by rfl) hx25 [16] ?_; clear hs; intro a hs
 refine go_end ?_
 obtain rfl := Option.some.inj H
 replace hw := hw.up 1
 replace hw := St.oM_of (m := mSrivetref05_Memory) (A := (some ⟨g18, 0, none⟩)) (x := y16) hw
 replace hw := hw.up 3
 replace hw := hw.up 3
 replace hw := hw.up 2
 replace hw := hw.up 3
 replace hw := mSrivetref06_Machine.close (x := (⟨(some y16), a2, a1, 0, x0.In, x0.Out⟩ : Srivetref06_Machine)) hw
 refine end0 hs (by kernel_rfl) ?_
 exact ⟨rfl, hw.only 1⟩

/-! rivet/load.Machine: function 11 -/
noncomputable def load_Machine (a0 : Sapi_Obj) (a1 : Int) (a2 : Int) (l3 : List Int) : Option ((Option Smachine_Machine) × Int) := ((load_Image a0 a1).bind fun ⟨t8, t9⟩ => ((if t9 = 0 then ((machine_New a2 l3).bind fun ⟨t24, t25⟩ => ((match t24 with | none => (if t25 = 0 then none else some ((none : Option Smachine_Machine), t25)) | some x31 => (if t25 = 0 then ((x31.Memory).bind fun y57 => (((memory_Memory_Place y57 (w64 (a1.tdiv 4)) t8).bind fun ⟨t61, t62⟩ => ((if t61 = 0 then ((load_Regs a1 a2).bind fun t73 => (((machine_Machine_Start (⟨(some t62), x31.s, x31.pc, x31.status, x31.in', x31.out⟩ : Smachine_Machine) (wu32 a1) t73).bind fun t78 => (some ((some t78), 0))))) else some ((none : Option Smachine_Machine), t61)))))) else some ((none : Option Smachine_Machine), t25))))) else some ((none : Option Smachine_Machine), t9))))
set_option maxRecDepth 100000 in
set_option maxHeartbeats 4000000 in
theorem load_Machine.calls (a0 : Sapi_Obj) (A0_1 : Option Addr) (c0_1 : Nat) (A0_2 : Option Addr) (c0_2 : Nat) (A0_3 : Option Addr) (c0_3 : Nat) (a1 : Int) (a2 : Int) (A3 : Option Addr) (c3 : Nat) (l3 : List Int) (r : (Option Smachine_Machine) × Int) (w0 : World) (hr0_1 : Rd w0 (eI .u32) A0_1 c0_1 a0.Words) (hr0_2 : Rd w0 (eI .i64) A0_2 c0_2 a0.Sites) (hr0_3 : Rd w0 eSapi_Sym A0_3 c0_3 a0.Syms) (hr3 : Rd w0 (eI .u32) A3 c3 l3) (H : load_Machine a0 a1 a2 l3 = some r) :
    Calls Tryd.prog 11 #[.agg #[.slice A0_1 a0.Words.length c0_1, .slice A0_2 a0.Sites.length c0_2, .slice A0_3 a0.Syms.length c0_3], .int .i64 a1, .int .i64 a2, .slice A3 l3.length c3] w0 fun e w' => ∃ A_0, e = .returned (.tuple #[.pointer A_0, .int .i64 r.2]) ∧ St [] w0 w' [oM mSmachine_Machine A_0 r.1] := by
 have hw : St [] w0 w0 [] := St.nil w0
 unfold load_Machine at H
 refine go_fn Tryd.func11 rfl Tryd.ntmps11 ?_; intro a hs
 refine go_sk fun K1 hK1 => ?_
 obtain ⟨g2, wd3, hx4, hw⟩ := x_boxc (P := Tryd.prog) (elem := 32) (v := (Operand.tmp 0)) (ty := 0) (cs := [.slice A0_1 a0.Words.length c0_1, .slice A0_2 a0.Sites.length c0_2, .slice A0_3 a0.Syms.length c0_3]) hs hw (by kernel_rfl)
 refine go_run hs (by rfl) hx4 [0] ?_; clear hs; intro a hs
 refine go_pvs 3 [] [] hs ?_; clear hs; intro a hs
 refine go_end (hK1 _ _ ?_)
 refine go_sk fun K6 hK6 => ?_
 refine go_run hs (by rfl) (x_blds (g := g2) (o := 0) (p := (⟨g2, 0, none⟩ : Addr)) (vs := [.slice A0_1 a0.Words.length c0_1, .slice A0_2 a0.Sites.length c0_2, .slice A0_3 a0.Syms.length c0_3]) (hw.up 0)) [4] ?_; clear hs; intro a hs
 refine go_pvs 2 [] [(16, .int .i64 a1)] hs ?_; clear hs; intro a hs
 obtain ⟨⟨t8, t9⟩, hx10, H⟩ := bind_some H
 refine go_call hs (by rfl) (load_Image.calls a0 A0_1 c0_1 A0_2 c0_2 A0_3 c0_3 a1 (t8, t9) _ (hr0_1.old hw) (hr0_2.old hw) (hr0_3.old hw) hx10) ?_
 rintro e wd13 ⟨Aa11, cc12, rfl, hw14⟩
 refine ⟨_, rfl, ?_⟩
 replace hw := hw.call hw14
 clear hs; intro a hs; replace hs := hs.rms [15, 16]
 refine go_pvs 8 [17] [(10, .slice Aa11 t8.length cc12), (11, .int .i64 t9)] hs ?_; clear hs; intro a hs
 refine go_end (hK6 _ _ ?_)
 refine go_seq_k fun K16 hK16 => ?_
 refine go_sp [] [(21, .bool (t9 != 0))] hs ?_; clear hs; intro a hs
 refine go_cond hs (t9 != 0) (fun hc => ?_) fun hc => ?_
 ·replace H := ite_f H (bne_iff_ne.1 hc)
  have hb18 := hc
  rw [hb18] at hs
  refine go_sp [1, 2, 3, 10, 11, 21] [(8, .pointer none), (9, .int .i64 t9)] hs ?_; clear hs; intro a hs
  refine wp_ret ?_
  refine th_ret ?_
  obtain rfl := Option.some.inj H
  replace hw := St.oM_nil mSmachine_Machine hw
  refine ret2 (t1 := 8) (v1 := .pointer none) (t2 := 9) (v2 := .int .i64 t9) hs (by kernel_rfl) (by kernel_rfl) (by kernel_rfl) ?_
  exact ⟨none, rfl, hw.only 1⟩
 ·replace H := ite_t H (bne_eq_false_iff_eq.1 hc)
  have hb21 := hc
  rw [hb21] at hs
  refine wp_skip ?_
  refine hK16 _ _ ?_
  refine go_sk fun K22 hK22 => ?_
  refine go_pvs 2 [3, 11, 21] [(24, .int .i64 a2), (25, .slice A3 l3.length c3)] hs ?_; clear hs; intro a hs
  obtain ⟨⟨t24, t25⟩, hx26, H⟩ := bind_some H
  refine go_call hs (by rfl) (machine_New.calls a2 A3 c3 l3 (t24, t25) _ (hr3.old hw) hx26) ?_
  rintro e wd28 ⟨Aa27, rfl, hw29⟩
  refine ⟨_, rfl, ?_⟩
  replace hw := hw.call hw29
  clear hs; intro a hs; replace hs := hs.rms [24, 25]
  rcases t24 with _ | x31
  ·obtain ⟨hAg, hwg⟩ := St.oM_none hw
   clear hw; subst hAg; have hw := hwg; clear hwg
   refine go_pvs 8 [26] [(11, .int .i64 t25), (12, .pointer none)] hs ?_; clear hs; intro a hs
   refine go_end (hK22 _ _ ?_)
   refine go_seq_k fun K32 hK32 => ?_
   refine go_sp [] [(30, .bool (t25 != 0))] hs ?_; clear hs; intro a hs
   refine go_cond hs (t25 != 0) (fun hc => ?_) fun hc => ?_
   ·replace H := ite_f H (bne_iff_ne.1 hc)
    have hb34 := hc
    rw [hb34] at hs
    refine go_sp [1, 2, 10, 11, 12, 30] [(8, .pointer none), (9, .int .i64 t25)] hs ?_; clear hs; intro a hs
    refine wp_ret ?_
    refine th_ret ?_
    obtain rfl := Option.some.inj H
    replace hw := St.oM_nil mSmachine_Machine hw
    refine ret2 (t1 := 8) (v1 := .pointer none) (t2 := 9) (v2 := .int .i64 t25) hs (by kernel_rfl) (by kernel_rfl) (by kernel_rfl) ?_
    exact ⟨none, rfl, hw.only 1⟩
   ·replace H := ite_t H (bne_eq_false_iff_eq.1 hc)
    have hb37 := hc
    rw [hb37] at hs
    refine wp_skip ?_
    refine hK32 _ _ ?_
    refine go_seq_k fun K38 hK38 => ?_
    refine go_sk fun K39 hK39 => ?_
    refine go_pvs 1 [11, 30] [(32, .pointer none)] hs ?_; clear hs; intro a hs
    cases H
  ·replace hw : St [] w0 _ [mSmachine_Machine Aa27 x31, own 38 (eI .u32) Aa11 cc12 t8, box g2 32 [.slice A0_1 a0.Words.length c0_1, .slice A0_2 a0.Sites.length c0_2, .slice A0_3 a0.Syms.length c0_3]] := hw
   obtain ⟨g40, hAg, hwg⟩ := mSmachine_Machine.addr hw
   clear hw; subst hAg; have hw := hwg; clear hwg
   replace hw : St [] w0 _ [mSmachine_Machine (some ⟨g40, 0, none⟩) x31, own 38 (eI .u32) Aa11 cc12 t8, box g2 32 [.slice A0_1 a0.Words.length c0_1, .slice A0_2 a0.Sites.length c0_2, .slice A0_3 a0.Syms.length c0_3]] := hw
   refine go_pvs 8 [26] [(11, .int .i64 t25), (12, .pointer (some (⟨g40, 0, none⟩ : Addr)))] hs ?_; clear hs; intro a hs
   refine go_end (hK22 _ _ ?_)
   refine go_seq_k fun K41 hK41 => ?_
   refine go_sp [] [(30, .bool (t25 != 0))] hs ?_; clear hs; intro a hs
   refine go_cond hs (t25 != 0) (fun hc => ?_) fun hc => ?_
   ·replace H := ite_f H (bne_iff_ne.1 hc)
    have hb43 := hc
    rw [hb43] at hs
    refine go_sp [1, 2, 10, 11, 12, 30] [(8, .pointer none), (9, .int .i64 t25)] hs ?_; clear hs; intro a hs
    refine wp_ret ?_
    refine th_ret ?_
    obtain rfl := Option.some.inj H
    replace hw := St.oM_nil mSmachine_Machine hw
    refine ret2 (t1 := 8) (v1 := .pointer none) (t2 := 9) (v2 := .int .i64 t25) hs (by kernel_rfl) (by kernel_rfl) (by kernel_rfl) ?_
    exact ⟨none, rfl, hw.only 1⟩
   ·replace H := ite_t H (bne_eq_false_iff_eq.1 hc)
    have hb46 := hc
    rw [hb46] at hs
    refine wp_skip ?_
    refine hK41 _ _ ?_
    refine go_seq_k fun K47 hK47 => ?_
    refine go_sk fun K48 hK48 => ?_
    refine go_pvs 3 [11, 30] [(34, .pointer (some (⟨g40, 0, none⟩ : Addr)))] hs ?_; clear hs; intro a hs
    obtain ⟨Aa49, Aa51, cc52, Aa54, cc55, hw⟩ := mSmachine_Machine.open1 hw
    replace hw : St [] w0 _ [box g40 55 ([.pointer Aa49] ++ eSapi_Regs.enc x31.s ++ [.int .u32 x31.pc, .int .i64 x31.status, .slice Aa51 x31.in'.length cc52, .slice Aa54 x31.out.length cc55]), oM mSmemory_Memory Aa49 x31.Memory, rdo (eI .u32) Aa51 cc52 x31.in', own 38 (eI .u32) Aa54 cc55 x31.out, own 38 (eI .u32) Aa11 cc12 t8, box g2 32 [.slice A0_1 a0.Words.length c0_1, .slice A0_2 a0.Sites.length c0_2, .slice A0_3 a0.Syms.length c0_3]] := hw
    replace hw := hw.up 1
    obtain ⟨y57, hy58, H⟩ := bind_some H
    replace hw := St.oM_some hw hy58
    obtain ⟨g59, hAg, hwg⟩ := St.one hw
    clear hw; subst hAg; have hw := hwg; clear hwg
    replace hw : St [] w0 _ [own 78 eSmemory_Memory (some (⟨g59, 0, none⟩ : Addr)) 1 [y57], box g40 55 ([.pointer (some (⟨g59, 0, none⟩ : Addr))] ++ eSapi_Regs.enc x31.s ++ [.int .u32 x31.pc, .int .i64 x31.status, .slice Aa51 x31.in'.length cc52, .slice Aa54 x31.out.length cc55]), rdo (eI .u32) Aa51 cc52 x31.in', own 38 (eI .u32) Aa54 cc55 x31.out, own 38 (eI .u32) Aa11 cc12 t8, box g2 32 [.slice A0_1 a0.Words.length c0_1, .slice A0_2 a0.Sites.length c0_2, .slice A0_3 a0.Syms.length c0_3]] := hw
    refine go_run hs (by rfl) (x_bld (g := g40) (o := 0) (p := (⟨g40, 0, none⟩ : Addr)) (v := .pointer (some (⟨g59, 0, none⟩ : Addr))) (hw.up 1)) [34] ?_; clear hs; intro a hs
    refine go_pvs 7 [10] [(37, .int .i64 (w64 (a1.tdiv 4))), (38, .slice Aa11 t8.length cc12)] hs ?_; clear hs; intro a hs
    obtain ⟨ks60, hgks60, hstks60, hbkks60⟩ := hw.lend 1
    obtain ⟨⟨t61, t62⟩, hx63, H⟩ := bind_some H
    refine go_call hs (by rfl) (memory_Memory_Place.calls ks60 (some (⟨g59, 0, none⟩ : Addr)) y57 (w64 (a1.tdiv 4)) Aa11 cc12 t8 (t61, t62) _ hgks60 (fun wz hkz => (Rd.of_own ((hstks60 _ hkz).up 3))) hx63) ?_
    rintro e wd64 ⟨rfl, hw65⟩
    refine ⟨_, rfl, ?_⟩
    replace hw := hbkks60 _ _ hw65
    replace hw : St [] w0 _ [own 78 eSmemory_Memory (some (⟨g59, 0, none⟩ : Addr)) 1 [t62], box g40 55 ([.pointer (some (⟨g59, 0, none⟩ : Addr))] ++ eSapi_Regs.enc x31.s ++ [.int .u32 x31.pc, .int .i64 x31.status, .slice Aa51 x31.in'.length cc52, .slice Aa54 x31.out.length cc55]), rdo (eI .u32) Aa51 cc52 x31.in', own 38 (eI .u32) Aa54 cc55 x31.out, own 38 (eI .u32) Aa11 cc12 t8, box g2 32 [.slice A0_1 a0.Words.length c0_1, .slice A0_2 a0.Sites.length c0_2, .slice A0_3 a0.Syms.length c0_3]] := hw
    clear hs; intro a hs; replace hs := hs.rms [35, 37, 38]
    refine go_pvs 9 [39] [(13, .int .i64 t61)] hs ?_; clear hs; intro a hs
    refine go_end (hK48 _ _ ?_)
    refine go_sp [] [(41, .bool (t61 != 0))] hs ?_; clear hs; intro a hs
    refine go_cond hs (t61 != 0) (fun hc => ?_) fun hc => ?_
    ·replace H := ite_f H (bne_iff_ne.1 hc)
     have hb67 := hc
     rw [hb67] at hs
     refine go_sp [1, 2, 12, 13, 41] [(8, .pointer none), (9, .int .i64 t61)] hs ?_; clear hs; intro a hs
     refine wp_ret ?_
     refine th_ret ?_
     obtain rfl := Option.some.inj H
     replace hw := St.oM_nil mSmachine_Machine hw
     refine ret2 (t1 := 8) (v1 := .pointer none) (t2 := 9) (v2 := .int .i64 t61) hs (by kernel_rfl) (by kernel_rfl) (by kernel_rfl) ?_
     exact ⟨none, rfl, hw.only 1⟩
    ·replace H := ite_t H (bne_eq_false_iff_eq.1 hc)
     have hb70 := hc
     rw [hb70] at hs
     refine wp_skip ?_
     refine hK47 _ _ ?_
     refine go_sk fun K71 hK71 => ?_
     refine go_pvs 5 [1, 2, 13, 41] [(43, .pointer (some (⟨g40, 0, none⟩ : Addr))), (45, .int .u32 (wu32 a1)), (46, .int .i64 a1), (47, .int .i64 a2)] hs ?_; clear hs; intro a hs
     obtain ⟨t73, hx74, H⟩ := bind_some H
     refine go_call hs (by rfl) (load_Regs.calls a1 a2 t73 _ hx74) ?_
     rintro e wd75 ⟨rfl, hw76⟩
     refine ⟨_, rfl, ?_⟩
     replace hw := hw.call hw76
     clear hs; intro a hs; replace hs := hs.rms [46, 47]
     replace hw := St.oM_of (m := mSmemory_Memory) (A := (some (⟨g59, 0, none⟩ : Addr))) (x := t62) hw
     replace hw := hw.up 3
     replace hw := hw.up 3
     replace hw := hw.up 2
     replace hw := hw.up 3
     replace hw := mSmachine_Machine.close (x := (⟨(some t62), x31.s, x31.pc, x31.status, x31.in', x31.out⟩ : Smachine_Machine)) hw
     obtain ⟨ks77, hgks77, hstks77, hbkks77⟩ := hw.lend 1
     obtain ⟨t78, hx79, H⟩ := bind_some H
     refine go_call hs (by rfl) (machine_Machine_Start.calls ks77 (some ⟨g40, 0, none⟩) (⟨(some t62), x31.s, x31.pc, x31.status, x31.in', x31.out⟩ : Smachine_Machine) (wu32 a1) t73 t78 _ hgks77 hx79) ?_
     rintro e wd80 ⟨rfl, hw81⟩
     refine ⟨_, rfl, ?_⟩
     replace hw := hbkks77 _ _ hw81
     replace hw : St [] w0 wd80 [mSmachine_Machine (some ⟨g40, 0, none⟩) t78, own 38 (eI .u32) Aa11 cc12 t8, box g2 32 [.slice A0_1 a0.Words.length c0_1, .slice A0_2 a0.Sites.length c0_2, .slice A0_3 a0.Syms.length c0_3]] := hw
     clear hs; intro a hs; replace hs := hs.rms [43, 45, 48, 49]
     refine go_end (hK71 _ _ ?_)
     refine go_sp [12] [(8, .pointer (some (⟨g40, 0, none⟩ : Addr))), (9, .int .i64 0)] hs ?_; clear hs; intro a hs
     refine wp_ret ?_
     obtain rfl := Option.some.inj H
     refine ret2 (t1 := 8) (v1 := .pointer (some (⟨g40, 0, none⟩ : Addr))) (t2 := 9) (v2 := .int .i64 0) hs (by kernel_rfl) (by kernel_rfl) (by kernel_rfl) ?_
     exact ⟨(some ⟨g40, 0, none⟩), rfl, hw.only 1⟩

/-! rivet/rivetref12.Machine: function 14 -/
noncomputable def rivetref12_Machine (a0 : Sapi_Obj) (a1 : Int) (a2 : Int) (l3 : List Int) : Option ((Option Srivetref06_Machine) × Int) := ((rivetref12_Image a0 a1).bind fun ⟨t8, t9⟩ => ((if t9 = 0 then ((rivetref06_New a2 l3).bind fun ⟨t24, t25⟩ => ((match t24 with | none => (if t25 = 0 then none else some ((none : Option Srivetref06_Machine), t25)) | some x31 => (if t25 = 0 then ((x31.M).bind fun y57 => (((rivetref05_Memory_Place y57 (w64 (a1.tdiv 4)) t8).bind fun ⟨t61, t62⟩ => ((if t61 = 0 then ((rivetref12_Regs a1 a2).bind fun t75 => (((rivetref06_Machine_Start (⟨(some t62), x31.S, x31.PC, x31.Status, x31.In, x31.Out⟩ : Srivetref06_Machine) (wu32 a1) t75).bind fun t80 => (some ((some t80), 0))))) else some ((none : Option Srivetref06_Machine), 11)))))) else some ((none : Option Srivetref06_Machine), t25))))) else some ((none : Option Srivetref06_Machine), t9))))
set_option maxRecDepth 100000 in
set_option maxHeartbeats 4000000 in
theorem rivetref12_Machine.calls (a0 : Sapi_Obj) (A0_1 : Option Addr) (c0_1 : Nat) (A0_2 : Option Addr) (c0_2 : Nat) (A0_3 : Option Addr) (c0_3 : Nat) (a1 : Int) (a2 : Int) (A3 : Option Addr) (c3 : Nat) (l3 : List Int) (r : (Option Srivetref06_Machine) × Int) (w0 : World) (hr0_1 : Rd w0 (eI .u32) A0_1 c0_1 a0.Words) (hr0_2 : Rd w0 (eI .i64) A0_2 c0_2 a0.Sites) (hr0_3 : Rd w0 eSapi_Sym A0_3 c0_3 a0.Syms) (hr3 : Rd w0 (eI .u32) A3 c3 l3) (H : rivetref12_Machine a0 a1 a2 l3 = some r) :
    Calls Tryd.prog 14 #[.agg #[.slice A0_1 a0.Words.length c0_1, .slice A0_2 a0.Sites.length c0_2, .slice A0_3 a0.Syms.length c0_3], .int .i64 a1, .int .i64 a2, .slice A3 l3.length c3] w0 fun e w' => ∃ A_0, e = .returned (.tuple #[.pointer A_0, .int .i64 r.2]) ∧ St [] w0 w' [oM mSrivetref06_Machine A_0 r.1] := by
 have hw : St [] w0 w0 [] := St.nil w0
 unfold rivetref12_Machine at H
 refine go_fn Tryd.func14 rfl Tryd.ntmps14 ?_; intro a hs
 refine go_sk fun K1 hK1 => ?_
 obtain ⟨g2, wd3, hx4, hw⟩ := x_boxc (P := Tryd.prog) (elem := 32) (v := (Operand.tmp 0)) (ty := 0) (cs := [.slice A0_1 a0.Words.length c0_1, .slice A0_2 a0.Sites.length c0_2, .slice A0_3 a0.Syms.length c0_3]) hs hw (by kernel_rfl)
 refine go_run hs (by rfl) hx4 [0] ?_; clear hs; intro a hs
 refine go_pvs 3 [] [] hs ?_; clear hs; intro a hs
 refine go_end (hK1 _ _ ?_)
 refine go_sk fun K6 hK6 => ?_
 refine go_run hs (by rfl) (x_blds (g := g2) (o := 0) (p := (⟨g2, 0, none⟩ : Addr)) (vs := [.slice A0_1 a0.Words.length c0_1, .slice A0_2 a0.Sites.length c0_2, .slice A0_3 a0.Syms.length c0_3]) (hw.up 0)) [4] ?_; clear hs; intro a hs
 refine go_pvs 2 [] [(16, .int .i64 a1)] hs ?_; clear hs; intro a hs
 obtain ⟨⟨t8, t9⟩, hx10, H⟩ := bind_some H
 refine go_call hs (by rfl) (rivetref12_Image.calls a0 A0_1 c0_1 A0_2 c0_2 A0_3 c0_3 a1 (t8, t9) _ (hr0_1.old hw) (hr0_2.old hw) (hr0_3.old hw) hx10) ?_
 rintro e wd13 ⟨Aa11, cc12, rfl, hw14⟩
 refine ⟨_, rfl, ?_⟩
 replace hw := hw.call hw14
 clear hs; intro a hs; replace hs := hs.rms [15, 16]
 refine go_pvs 8 [17] [(10, .slice Aa11 t8.length cc12), (11, .int .i64 t9)] hs ?_; clear hs; intro a hs
 refine go_end (hK6 _ _ ?_)
 refine go_seq_k fun K16 hK16 => ?_
 refine go_sp [] [(21, .bool (t9 != 0))] hs ?_; clear hs; intro a hs
 refine go_cond hs (t9 != 0) (fun hc => ?_) fun hc => ?_
 ·replace H := ite_f H (bne_iff_ne.1 hc)
  have hb18 := hc
  rw [hb18] at hs
  refine go_sp [1, 2, 3, 10, 11, 21] [(8, .pointer none), (9, .int .i64 t9)] hs ?_; clear hs; intro a hs
  refine wp_ret ?_
  refine th_ret ?_
  obtain rfl := Option.some.inj H
  replace hw := St.oM_nil mSrivetref06_Machine hw
  refine ret2 (t1 := 8) (v1 := .pointer none) (t2 := 9) (v2 := .int .i64 t9) hs (by kernel_rfl) (by kernel_rfl) (by kernel_rfl) ?_
  exact ⟨none, rfl, hw.only 1⟩
 ·replace H := ite_t H (bne_eq_false_iff_eq.1 hc)
  have hb21 := hc
  rw [hb21] at hs
  refine wp_skip ?_
  refine hK16 _ _ ?_
  refine go_sk fun K22 hK22 => ?_
  refine go_pvs 2 [3, 11, 21] [(24, .int .i64 a2), (25, .slice A3 l3.length c3)] hs ?_; clear hs; intro a hs
  obtain ⟨⟨t24, t25⟩, hx26, H⟩ := bind_some H
  refine go_call hs (by rfl) (rivetref06_New.calls a2 A3 c3 l3 (t24, t25) _ (hr3.old hw) hx26) ?_
  rintro e wd28 ⟨Aa27, rfl, hw29⟩
  refine ⟨_, rfl, ?_⟩
  replace hw := hw.call hw29
  clear hs; intro a hs; replace hs := hs.rms [24, 25]
  rcases t24 with _ | x31
  ·obtain ⟨hAg, hwg⟩ := St.oM_none hw
   clear hw; subst hAg; have hw := hwg; clear hwg
   refine go_pvs 8 [26] [(12, .pointer none), (13, .int .i64 t25)] hs ?_; clear hs; intro a hs
   refine go_end (hK22 _ _ ?_)
   refine go_seq_k fun K32 hK32 => ?_
   refine go_sp [] [(30, .bool (t25 != 0))] hs ?_; clear hs; intro a hs
   refine go_cond hs (t25 != 0) (fun hc => ?_) fun hc => ?_
   ·replace H := ite_f H (bne_iff_ne.1 hc)
    have hb34 := hc
    rw [hb34] at hs
    refine go_sp [1, 2, 10, 12, 13, 30] [(8, .pointer none), (9, .int .i64 t25)] hs ?_; clear hs; intro a hs
    refine wp_ret ?_
    refine th_ret ?_
    obtain rfl := Option.some.inj H
    replace hw := St.oM_nil mSrivetref06_Machine hw
    refine ret2 (t1 := 8) (v1 := .pointer none) (t2 := 9) (v2 := .int .i64 t25) hs (by kernel_rfl) (by kernel_rfl) (by kernel_rfl) ?_
    exact ⟨none, rfl, hw.only 1⟩
   ·replace H := ite_t H (bne_eq_false_iff_eq.1 hc)
    have hb37 := hc
    rw [hb37] at hs
    refine wp_skip ?_
    refine hK32 _ _ ?_
    refine go_seq_k fun K38 hK38 => ?_
    refine go_sk fun K39 hK39 => ?_
    refine go_pvs 1 [13, 30] [(32, .pointer none)] hs ?_; clear hs; intro a hs
    cases H
  ·replace hw : St [] w0 _ [mSrivetref06_Machine Aa27 x31, own 38 (eI .u32) Aa11 cc12 t8, box g2 32 [.slice A0_1 a0.Words.length c0_1, .slice A0_2 a0.Sites.length c0_2, .slice A0_3 a0.Syms.length c0_3]] := hw
   obtain ⟨g40, hAg, hwg⟩ := mSrivetref06_Machine.addr hw
   clear hw; subst hAg; have hw := hwg; clear hwg
   replace hw : St [] w0 _ [mSrivetref06_Machine (some ⟨g40, 0, none⟩) x31, own 38 (eI .u32) Aa11 cc12 t8, box g2 32 [.slice A0_1 a0.Words.length c0_1, .slice A0_2 a0.Sites.length c0_2, .slice A0_3 a0.Syms.length c0_3]] := hw
   refine go_pvs 8 [26] [(12, .pointer (some (⟨g40, 0, none⟩ : Addr))), (13, .int .i64 t25)] hs ?_; clear hs; intro a hs
   refine go_end (hK22 _ _ ?_)
   refine go_seq_k fun K41 hK41 => ?_
   refine go_sp [] [(30, .bool (t25 != 0))] hs ?_; clear hs; intro a hs
   refine go_cond hs (t25 != 0) (fun hc => ?_) fun hc => ?_
   ·replace H := ite_f H (bne_iff_ne.1 hc)
    have hb43 := hc
    rw [hb43] at hs
    refine go_sp [1, 2, 10, 12, 13, 30] [(8, .pointer none), (9, .int .i64 t25)] hs ?_; clear hs; intro a hs
    refine wp_ret ?_
    refine th_ret ?_
    obtain rfl := Option.some.inj H
    replace hw := St.oM_nil mSrivetref06_Machine hw
    refine ret2 (t1 := 8) (v1 := .pointer none) (t2 := 9) (v2 := .int .i64 t25) hs (by kernel_rfl) (by kernel_rfl) (by kernel_rfl) ?_
    exact ⟨none, rfl, hw.only 1⟩
   ·replace H := ite_t H (bne_eq_false_iff_eq.1 hc)
    have hb46 := hc
    rw [hb46] at hs
    refine wp_skip ?_
    refine hK41 _ _ ?_
    refine go_seq_k fun K47 hK47 => ?_
    refine go_sk fun K48 hK48 => ?_
    refine go_pvs 3 [13, 30] [(34, .pointer (some (⟨g40, 0, none⟩ : Addr)))] hs ?_; clear hs; intro a hs
    obtain ⟨Aa49, Aa51, cc52, Aa54, cc55, hw⟩ := mSrivetref06_Machine.open1 hw
    replace hw : St [] w0 _ [box g40 58 ([.pointer Aa49] ++ eSapi_Regs.enc x31.S ++ [.int .u32 x31.PC, .int .i64 x31.Status, .slice Aa51 x31.In.length cc52, .slice Aa54 x31.Out.length cc55]), oM mSrivetref05_Memory Aa49 x31.M, rdo (eI .u32) Aa51 cc52 x31.In, own 38 (eI .u32) Aa54 cc55 x31.Out, own 38 (eI .u32) Aa11 cc12 t8, box g2 32 [.slice A0_1 a0.Words.length c0_1, .slice A0_2 a0.Sites.length c0_2, .slice A0_3 a0.Syms.length c0_3]] := hw
    replace hw := hw.up 1
    obtain ⟨y57, hy58, H⟩ := bind_some H
    replace hw := St.oM_some hw hy58
    obtain ⟨g59, hAg, hwg⟩ := mSrivetref05_Memory.addr hw
    clear hw; subst hAg; have hw := hwg; clear hwg
    replace hw : St [] w0 _ [mSrivetref05_Memory (some ⟨g59, 0, none⟩) y57, box g40 58 ([.pointer (some ⟨g59, 0, none⟩)] ++ eSapi_Regs.enc x31.S ++ [.int .u32 x31.PC, .int .i64 x31.Status, .slice Aa51 x31.In.length cc52, .slice Aa54 x31.Out.length cc55]), rdo (eI .u32) Aa51 cc52 x31.In, own 38 (eI .u32) Aa54 cc55 x31.Out, own 38 (eI .u32) Aa11 cc12 t8, box g2 32 [.slice A0_1 a0.Words.length c0_1, .slice A0_2 a0.Sites.length c0_2, .slice A0_3 a0.Syms.length c0_3]] := hw
    replace hw : St [] w0 _ [mSrivetref05_Memory (some ⟨g59, 0, none⟩) y57, box g40 58 ([.pointer (some (⟨g59, 0, none⟩ : Addr))] ++ eSapi_Regs.enc x31.S ++ [.int .u32 x31.PC, .int .i64 x31.Status, .slice Aa51 x31.In.length cc52, .slice Aa54 x31.Out.length cc55]), rdo (eI .u32) Aa51 cc52 x31.In, own 38 (eI .u32) Aa54 cc55 x31.Out, own 38 (eI .u32) Aa11 cc12 t8, box g2 32 [.slice A0_1 a0.Words.length c0_1, .slice A0_2 a0.Sites.length c0_2, .slice A0_3 a0.Syms.length c0_3]] := hw
    refine go_run hs (by rfl) (x_bld (g := g40) (o := 0) (p := (⟨g40, 0, none⟩ : Addr)) (v := .pointer (some (⟨g59, 0, none⟩ : Addr))) (hw.up 1)) [34] ?_; clear hs; intro a hs
    refine go_pvs 7 [10] [(37, .int .i64 (w64 (a1.tdiv 4))), (38, .slice Aa11 t8.length cc12)] hs ?_; clear hs; intro a hs
    obtain ⟨ks60, hgks60, hstks60, hbkks60⟩ := hw.lend 1
    obtain ⟨⟨t61, t62⟩, hx63, H⟩ := bind_some H
    refine go_call hs (by rfl) (rivetref05_Memory_Place.calls ks60 (some ⟨g59, 0, none⟩) y57 (w64 (a1.tdiv 4)) Aa11 cc12 t8 (t61, t62) _ hgks60 (fun wz hkz => (Rd.of_own ((hstks60 _ hkz).up 3))) hx63) ?_
    rintro e wd64 ⟨rfl, hw65⟩
    refine ⟨_, rfl, ?_⟩
    replace hw := hbkks60 _ _ hw65
    obtain ⟨Aa66, cc67, hw⟩ := mSrivetref05_Memory.open1 hw
    replace hw : St [] w0 _ [box g59 80 [.slice Aa66 t62.B.length cc67], own 5 (eI .u8) Aa66 cc67 t62.B, box g40 58 ([.pointer (some (⟨g59, 0, none⟩ : Addr))] ++ eSapi_Regs.enc x31.S ++ [.int .u32 x31.PC, .int .i64 x31.Status, .slice Aa51 x31.In.length cc52, .slice Aa54 x31.Out.length cc55]), rdo (eI .u32) Aa51 cc52 x31.In, own 38 (eI .u32) Aa54 cc55 x31.Out, own 38 (eI .u32) Aa11 cc12 t8, box g2 32 [.slice A0_1 a0.Words.length c0_1, .slice A0_2 a0.Sites.length c0_2, .slice A0_3 a0.Syms.length c0_3]] := hw
    clear hs; intro a hs; replace hs := hs.rms [35, 37, 38]
    refine go_pvs 9 [39] [(40, .bool (t61 != 0))] hs ?_; clear hs; intro a hs
    refine go_end (hK48 _ _ ?_)
    refine go_cond hs (t61 != 0) (fun hc => ?_) fun hc => ?_
    ·replace H := ite_f H (bne_iff_ne.1 hc)
     have hb69 := hc
     rw [hb69] at hs
     refine go_sp [1, 2, 12, 40] [(8, .pointer none), (9, .int .i64 11)] hs ?_; clear hs; intro a hs
     refine wp_ret ?_
     refine th_ret ?_
     obtain rfl := Option.some.inj H
     replace hw := St.oM_nil mSrivetref06_Machine hw
     refine ret2 (t1 := 8) (v1 := .pointer none) (t2 := 9) (v2 := .int .i64 11) hs (by kernel_rfl) (by kernel_rfl) (by kernel_rfl) ?_
     exact ⟨none, rfl, hw.only 1⟩
    ·replace H := ite_t H (bne_eq_false_iff_eq.1 hc)
     have hb72 := hc
     rw [hb72] at hs
     refine wp_skip ?_
     refine hK47 _ _ ?_
     refine go_sk fun K73 hK73 => ?_
     refine go_pvs 5 [1, 2, 40] [(41, .pointer (some (⟨g40, 0, none⟩ : Addr))), (43, .int .u32 (wu32 a1)), (44, .int .i64 a1), (45, .int .i64 a2)] hs ?_; clear hs; intro a hs
     obtain ⟨t75, hx76, H⟩ := bind_some H
     refine go_call hs (by rfl) (rivetref12_Regs.calls a1 a2 t75 _ hx76) ?_
     rintro e wd77 ⟨rfl, hw78⟩
     refine ⟨_, rfl, ?_⟩
     replace hw := hw.call hw78
     clear hs; intro a hs; replace hs := hs.rms [44, 45]
     replace hw := hw.up 1
     replace hw := hw.up 1
     replace hw := mSrivetref05_Memory.close (x := t62) hw
     replace hw := St.oM_of (m := mSrivetref05_Memory) (A := (some ⟨g59, 0, none⟩)) (x := t62) hw
     replace hw := hw.up 3
     replace hw := hw.up 3
     replace hw := hw.up 2
     replace hw := hw.up 3
     replace hw := mSrivetref06_Machine.close (x := (⟨(some t62), x31.S, x31.PC, x31.Status, x31.In, x31.Out⟩ : Srivetref06_Machine)) hw
     obtain ⟨ks79, hgks79, hstks79, hbkks79⟩ := hw.lend 1
     obtain ⟨t80, hx81, H⟩ := bind_some H
     refine go_call hs (by rfl) (rivetref06_Machine_Start.calls ks79 (some ⟨g40, 0, none⟩) (⟨(some t62), x31.S, x31.PC, x31.Status, x31.In, x31.Out⟩ : Srivetref06_Machine) (wu32 a1) t75 t80 _ hgks79 hx81) ?_
     rintro e wd82 ⟨rfl, hw83⟩
     refine ⟨_, rfl, ?_⟩
     replace hw := hbkks79 _ _ hw83
     replace hw : St [] w0 wd82 [mSrivetref06_Machine (some ⟨g40, 0, none⟩) t80, own 38 (eI .u32) Aa11 cc12 t8, box g2 32 [.slice A0_1 a0.Words.length c0_1, .slice A0_2 a0.Sites.length c0_2, .slice A0_3 a0.Syms.length c0_3]] := hw
     clear hs; intro a hs; replace hs := hs.rms [41, 43, 46, 47]
     refine go_end (hK73 _ _ ?_)
     refine go_sp [12] [(8, .pointer (some (⟨g40, 0, none⟩ : Addr))), (9, .int .i64 0)] hs ?_; clear hs; intro a hs
     refine wp_ret ?_
     obtain rfl := Option.some.inj H
     refine ret2 (t1 := 8) (v1 := .pointer (some (⟨g40, 0, none⟩ : Addr))) (t2 := 9) (v2 := .int .i64 0) hs (by kernel_rfl) (by kernel_rfl) (by kernel_rfl) ?_
     exact ⟨(some ⟨g40, 0, none⟩), rfl, hw.only 1⟩

end Go.Proofs.YtheccnbamcdpmaaDoor.T12
