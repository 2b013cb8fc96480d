/- YtmfnololpfdfdaaDoorT09: Go functions told as plain ones, each with a proof that its call comes to what is told, part 2. Condition of each: that the plain function comes to a value. -/
import Derived.Test.YtmfnololpfdfdaaDoorT09a
namespace Go.Proofs.YtmfnololpfdfdaaDoor.T09
open Go Go.RowKit Go.Proofs.YtmfnololpfdfdaaDoor.E
set_option linter.unusedVariables false
set_option linter.unusedSimpArgs false

/-! rivet/object.May: function 15 -/
noncomputable def object_May.b47 (a0 : Sapi_Obj) (v48 : Int) : Option (Int ⊕ (Ex Int Unit)) := (if v48 < (a0.Sites.length : Int) then (if 0 ≤ v48 ∧ v48 < (a0.Sites.length : Int) then (if 0 ≤ (ix (eI .i64).d a0.Sites v48) ∧ (ix (eI .i64).d a0.Sites v48) < (a0.Words.length : Int) then (if (w64 (ix (eI .u32).d a0.Words (ix (eI .i64).d a0.Sites v48))) > (w64 (4 * (a0.Words.length : Int))) then some (.inr (.ret v48)) else some (.inl (w64 (v48 + 1)))) else none) else none) else some (.inr (.done ())))
noncomputable def object_May.j6 (v77 : Int) : Option (Int ⊕ (Ex Bool Unit)) := some (.inl (w64 (v77 + 1)))
noncomputable def object_May.j5 (v77 : Int) (v98 : Bool) : Option (Int ⊕ (Ex Bool Unit)) := (if v98 = true then some (.inr (.ret false)) else object_May.j6 v77)
noncomputable def object_May.b76 (a0 : Sapi_Obj) (v77 : Int) : Option (Int ⊕ (Ex Bool Unit)) := (if v77 < (a0.Syms.length : Int) then (if 0 ≤ v77 ∧ v77 < (a0.Syms.length : Int) then ((le_Name (((ix eSapi_Sym.d a0.Syms v77) : Sapi_Sym).Name)).bind fun t93 => ((if t93 = true then (if v77 > 0 then (if 0 ≤ (w64 (v77 - 1)) ∧ (w64 (v77 - 1)) < (a0.Syms.length : Int) then object_May.j5 v77 (Op.bytesLess (((ix eSapi_Sym.d a0.Syms v77) : Sapi_Sym).Name).toList ((ix eSapi_Sym.d a0.Syms (w64 (v77 - 1))).Name).toList || (((ix eSapi_Sym.d a0.Syms v77) : Sapi_Sym).Name).toList == ((ix eSapi_Sym.d a0.Syms (w64 (v77 - 1))).Name).toList) else none) else object_May.j5 v77 false) else object_May.j5 v77 true))) else none) else some (.inr (.done ())))
noncomputable def object_May.j9 (v117 : Int) (v135 : Bool) : Option (Int ⊕ (Ex Int Unit)) := (if v135 = true then some (.inr (.ret v117)) else some (.inl (w64 (v117 + 1))))
noncomputable def object_May.b116 (a0 : Sapi_Obj) (v117 : Int) : Option (Int ⊕ (Ex Int Unit)) := (if v117 < (a0.Syms.length : Int) then (if 0 ≤ v117 ∧ v117 < (a0.Syms.length : Int) then (if ((ix eSapi_Sym.d a0.Syms v117).At) < 0 then object_May.j9 v117 true else (if ((ix eSapi_Sym.d a0.Syms v117).At) > (w64 (4 * (a0.Words.length : Int))) then object_May.j9 v117 true else object_May.j9 v117 ((((ix eSapi_Sym.d a0.Syms v117).At).tmod 4) != 0))) else none) else some (.inr (.done ())))
noncomputable def object_May.j11 (v141 : Int) : Option Int := (if v141 ≥ 0 then some 8 else some 0)
noncomputable def object_May.j10 : Option Int := object_May.j11 (-1)
noncomputable def object_May.j8 (a0 : Sapi_Obj) (v104 : Bool) : Option Int := (if v104 = true then ((loopO (fun (σ : Int) => object_May.b116 a0 σ) 0).bind fun e => match e with | .ret x => object_May.j11 x | .done e => object_May.j10) else some 9)
noncomputable def object_May.j7 (a0 : Sapi_Obj) : Option Int := object_May.j8 a0 true
noncomputable def object_May.j4 (a0 : Sapi_Obj) (v67 : Int) : Option Int := (if v67 ≥ 0 then some 8 else ((loopO (fun (σ : Int) => object_May.b76 a0 σ) 0).bind fun e => match e with | .ret x => object_May.j8 a0 x | .done e => object_May.j7 a0))
noncomputable def object_May.j3 (a0 : Sapi_Obj) : Option Int := object_May.j4 a0 (-1)
noncomputable def object_May.j2 (a0 : Sapi_Obj) : Option Int := ((chain_Pack a0.Words a0.Sites).bind fun ⟨t25, t26, t27⟩ => ((if t27 = 7 then some t27 else ((loopO (fun (σ : Int) => object_May.b47 a0 σ) 0).bind fun e => match e with | .ret x => object_May.j4 a0 x | .done e => object_May.j3 a0))))
noncomputable def object_May.j1 (a0 : Sapi_Obj) (v19 : Bool) : Option Int := (if v19 = true then some 2 else object_May.j2 a0)
noncomputable def object_May (a0 : Sapi_Obj) : Option Int := (if (a0.Words.length : Int) > 1024 then object_May.j1 a0 true else object_May.j1 a0 (decide ((a0.Syms.length : Int) > 64)))
set_option maxRecDepth 100000 in
set_option maxHeartbeats 4000000 in
theorem object_May.calls (a0 : Sapi_Obj) (A0_1 : Option Addr) (c0_1 : Nat) (A0_2 : Option Addr) (c0_2 : Nat) (A0_3 : Option Addr) (c0_3 : Nat) (r : Int) (w0 : World) (hr0_1 : Rd w0 (eI .u32) A0_1 c0_1 a0.Words) (hr0_2 : Rd w0 (eI .i64) A0_2 c0_2 a0.Sites) (hr0_3 : Rd w0 eSapi_Sym A0_3 c0_3 a0.Syms) (H : object_May a0 = some r) :
    Calls Tryd.prog 15 #[.agg #[.slice A0_1 a0.Words.length c0_1, .slice A0_2 a0.Sites.length c0_2, .slice A0_3 a0.Syms.length c0_3]] w0 fun e w' => e = .returned (.int .i64 r) ∧ St [] w0 w' [] := by
 have hw : St [] w0 w0 [] := St.nil w0
 unfold object_May at H
 refine go_fn Tryd.func15 rfl Tryd.ntmps15 ?_; intro a hs
 refine go_sk fun K1 hK1 => ?_
 obtain ⟨g2, wd3, hx4, hw⟩ := x_boxc (P := Tryd.prog) (elem := 26) (v := (Operand.tmp 0)) (ty := 0) (cs := [.slice A0_1 a0.Words.length c0_1, .slice A0_2 a0.Sites.length c0_2, .slice A0_3 a0.Syms.length c0_3]) hs hw (by kernel_rfl)
 refine go_run hs (by rfl) hx4 [0] ?_; clear hs; intro a hs
 refine go_pvs 2 [] [] hs ?_; clear hs; intro a hs
 refine go_end (hK1 _ _ ?_)
 refine go_sk fun K6 hK6 => ?_
 refine go_pvs 1 [] [(10, .pointer (some (((⟨g2, 0, none⟩ : Addr) : Addr).add 0)))] hs ?_; clear hs; intro a hs
 refine go_run hs (by rfl) (x_bld (g := g2) (o := 0) (p := ((⟨g2, 0, none⟩ : Addr) : Addr).add 0) (v := .slice A0_1 a0.Words.length c0_1) (hw.up 0)) [10] ?_; clear hs; intro a hs
 refine go_pvs 4 [11] [(13, .int .i64 (w64 (4 * (a0.Words.length : Int))))] hs ?_; clear hs; intro a hs
 obtain ⟨ad7, wd8, hx9, hw⟩ := x_alloc1 (P := Tryd.prog) (elem := 3) (ty := 0) (z := .int .i64 0) hs hw (eI .i64) 0 (by kernel_rfl) (by kernel_rfl)
 refine go_run hs (by rfl) hx9 [] ?_; clear hs; intro a hs
 obtain ⟨wd11, hx12, hw⟩ := x_put (P := Tryd.prog) (ty := 0) (t := 3) (x := (Operand.tmp 3)) (y := (Operand.tmp 13)) (off := 0) (p := ad7) (v := .int .i64 (w64 (4 * (a0.Words.length : Int)))) (vs := [.int .i64 (w64 (4 * (a0.Words.length : Int)))]) (i := 0) (e' := (w64 (4 * (a0.Words.length : Int)) : Int)) hs hw rfl (one_ok 0).1 (one_ok 0).2 (by kernel_rfl) (one_at _ _) (by kernel_rfl) rfl (by kernel_rfl) (Nat.le_of_ble_eq_true rfl) (by simp [Value.oneCell']) (by kernel_rfl)
 refine go_unit hs (by rfl) hx12 [13] ?_; clear hs; intro a hs
 replace hw : St [] w0 wd11 [own 3 (eI .i64) (some ad7) 1 [w64 (4 * (a0.Words.length : Int))], box g2 26 [.slice A0_1 a0.Words.length c0_1, .slice A0_2 a0.Sites.length c0_2, .slice A0_3 a0.Syms.length c0_3]] := hw
 refine go_end (hK6 _ _ ?_)
 refine go_sp [] [(4, .func (.func 30) #[] #[.pointer (some (⟨g2, 0, none⟩ : Addr)), .pointer (some ad7)])] hs ?_; clear hs; intro a hs
 refine go_sp [3] [(5, .func (.func 31) #[] #[.pointer (some ad7)])] hs ?_; clear hs; intro a hs
 refine go_sp [] [(6, .func (.func 32) #[] #[.pointer (some (⟨g2, 0, none⟩ : Addr))])] hs ?_; clear hs; intro a hs
 refine go_seq_k fun K16 hK16 => ?_
 have hJ2 : ∀ (a : Act) (w : World), Slots a 54 [(1, .pointer (some (⟨g2, 0, none⟩ : Addr))), (4, .func (.func 30) #[] #[.pointer (some (⟨g2, 0, none⟩ : Addr)), .pointer (some ad7)]), (5, .func (.func 31) #[] #[.pointer (some ad7)]), (6, .func (.func 32) #[] #[.pointer (some (⟨g2, 0, none⟩ : Addr))])] → St [] w0 w [own 3 (eI .i64) (some ad7) 1 [w64 (4 * (a0.Words.length : Int))], box g2 26 [.slice A0_1 a0.Words.length c0_1, .slice A0_2 a0.Sites.length c0_2, .slice A0_3 a0.Syms.length c0_3]] → object_May.j2 a0 = some r → K16 a w := by
  intro a w hs hw H
  unfold object_May.j2 at H
  refine hK16 _ _ ?_
  refine go_sk fun K23 hK23 => ?_
  refine go_pvs 1 [] [(28, .pointer (some (((⟨g2, 0, none⟩ : Addr) : Addr).add 0)))] hs ?_; clear hs; intro a hs
  refine go_run hs (by rfl) (x_bld (g := g2) (o := 0) (p := ((⟨g2, 0, none⟩ : Addr) : Addr).add 0) (v := .slice A0_1 a0.Words.length c0_1) (hw.up 1)) [28] ?_; clear hs; intro a hs
  refine go_pvs 3 [] [(30, .pointer (some (((⟨g2, 0, none⟩ : Addr) : Addr).add 1)))] hs ?_; clear hs; intro a hs
  refine go_run hs (by rfl) (x_bld (g := g2) (o := 1) (p := ((⟨g2, 0, none⟩ : Addr) : Addr).add 1) (v := .slice A0_2 a0.Sites.length c0_2) (hw.up 1)) [30] ?_; clear hs; intro a hs
  obtain ⟨⟨t25, t26, t27⟩, hx28, H⟩ := bind_some H
  refine go_call hs (by rfl) (chain_Pack.calls A0_1 c0_1 a0.Words A0_2 c0_2 a0.Sites (t25, t26, t27) _ (hr0_1.old hw) (hr0_2.old hw) hx28) ?_
  rintro e wd31 ⟨Aa29, cc30, rfl, hw32⟩
  refine ⟨_, rfl, ?_⟩
  replace hw := hw.call hw32
  clear hs; intro a hs; replace hs := hs.rms [29, 31]
  refine go_pvs 12 [32] [(9, .int .i64 t27)] hs ?_; clear hs; intro a hs
  refine go_end (hK23 _ _ ?_)
  refine go_seq_k fun K34 hK34 => ?_
  refine wp_block ?_
  refine go_sp [] [(36, .bool (t27 == 7))] hs ?_; clear hs; intro a hs
  refine go_cond hs (t27 == 7) (fun hc => ?_) fun hc => ?_
  ·replace H := ite_t H (beq_iff_eq.1 hc)
   have hb36 := hc
   rw [hb36] at hs
   refine go_sp [1, 4, 5, 6, 9, 36] [(2, .int .i64 t27)] hs ?_; clear hs; intro a hs
   refine wp_ret ?_
   refine ib_ret ?_
   refine th_ret ?_
   obtain rfl := Option.some.inj H
   refine ret1 (t := 2) (v := .int .i64 t27) hs (by kernel_rfl) (by kernel_rfl) ?_
   exact ⟨rfl, hw.only 0⟩
  ·replace H := ite_f H (beq_eq_false_iff_ne.1 hc)
   have hb38 := hc
   rw [hb38] at hs
   refine go_sk fun K39 hK39 => ?_
   refine go_pvs 1 [9, 36] [(41, .pointer (some (((⟨g2, 0, none⟩ : Addr) : Addr).add 1)))] hs ?_; clear hs; intro a hs
   refine go_run hs (by rfl) (x_bld (g := g2) (o := 1) (p := ((⟨g2, 0, none⟩ : Addr) : Addr).add 1) (v := .slice A0_2 a0.Sites.length c0_2) (hw.up 2)) [41] ?_; clear hs; intro a hs
   refine go_pvs 3 [4] [(43, .func (.func 30) #[] #[.pointer (some (⟨g2, 0, none⟩ : Addr)), .pointer (some ad7)])] hs ?_; clear hs; intro a hs
   refine go_inline_k hs (by rfl) (f := 34) (args := #[.slice A0_2 a0.Sites.length c0_2, .func (.func 30) #[] #[.pointer (some (⟨g2, 0, none⟩ : Addr)), .pointer (some ad7)]]) (fun KR40 hKR40 => ?_)
   refine go_fn Tryd.func34 rfl Tryd.ntmps34 ?_; clear hs; intro a hs
   refine go_sp [] [] hs ?_; clear hs; intro a hs
   refine go_sk fun K42 hK42 => ?_
   refine go_pvs 2 [0, 1] [(5, .slice A0_2 a0.Sites.length c0_2), (6, .func (.func 30) #[] #[.pointer (some (⟨g2, 0, none⟩ : Addr)), .pointer (some ad7)])] hs ?_; clear hs; intro a hs
   refine go_inline_k hs (by rfl) (f := 58) (args := #[.slice A0_2 a0.Sites.length c0_2, .func (.func 30) #[] #[.pointer (some (⟨g2, 0, none⟩ : Addr)), .pointer (some ad7)]]) (fun KR43 hKR43 => ?_)
   refine go_fn Tryd.func58 rfl Tryd.ntmps58 ?_; clear hs; intro a hs
   have hJ4 : ∀ (v67 : Int) (w : World), St [] w0 w [own 37 (eI .u32) Aa29 cc30 t25, own 3 (eI .i64) (some ad7) 1 [w64 (4 * (a0.Words.length : Int))], box g2 26 [.slice A0_1 a0.Words.length c0_1, .slice A0_2 a0.Sites.length c0_2, .slice A0_3 a0.Syms.length c0_3]] → object_May.j4 a0 v67 = some r → KR43 (.int .i64 v67) w := by
    intro v67 w hw H
    unfold object_May.j4 at H
    refine hKR43 _ _ ?_
    intro a hs1; have hs : Slots a _ [(7, .int .i64 v67)] := hs1.kx; clear hs1
    refine go_pvs 5 [7] [(4, .bool (decide (v67 ≥ 0)))] hs ?_; clear hs; intro a hs
    refine go_end (hK42 _ _ ?_)
    refine wp_ret ?_
    refine ret1 (t := 4) (v := .bool (decide (v67 ≥ 0))) hs (by kernel_rfl) (by kernel_rfl) ?_
    refine ⟨_, rfl, ?_⟩
    refine hKR40 _ _ ?_
    intro a hs1; have hs : Slots a _ [(1, .pointer (some (⟨g2, 0, none⟩ : Addr))), (5, .func (.func 31) #[] #[.pointer (some ad7)]), (6, .func (.func 32) #[] #[.pointer (some (⟨g2, 0, none⟩ : Addr))]), (44, .bool (decide (v67 ≥ 0)))] := hs1.kx; clear hs1
    refine go_pvs 5 [44] [(40, .bool (decide (v67 ≥ 0)))] hs ?_; clear hs; intro a hs
    refine go_end (hK39 _ _ ?_)
    refine go_cond hs (decide (v67 ≥ 0)) (fun hc => ?_) fun hc => ?_
    ·replace H := ite_t H (of_decide_eq_true hc)
     have hb68 := hc
     rw [hb68] at hs
     refine go_sp [1, 5, 6, 40] [(2, .int .i64 8)] hs ?_; clear hs; intro a hs
     refine wp_ret ?_
     refine ib_ret ?_
     refine th_ret ?_
     obtain rfl := Option.some.inj H
     refine ret1 (t := 2) (v := .int .i64 8) hs (by kernel_rfl) (by kernel_rfl) ?_
     exact ⟨rfl, hw.only 0⟩
    ·replace H := ite_f H (of_decide_eq_false hc)
     have hb70 := hc
     rw [hb70] at hs
     refine go_sk fun K71 hK71 => ?_
     refine go_pvs 1 [6, 40] [(46, .func (.func 32) #[] #[.pointer (some (⟨g2, 0, none⟩ : Addr))])] hs ?_; clear hs; intro a hs
     refine go_inline_k hs (by rfl) (f := 32) (args := #[.pointer (some (⟨g2, 0, none⟩ : Addr))]) (fun KR72 hKR72 => ?_)
     refine go_fn Tryd.func32 rfl Tryd.ntmps32 ?_; clear hs; intro a hs
     have hJ8 : ∀ (v104 : Bool) (w : World), St [] w0 w [own 37 (eI .u32) Aa29 cc30 t25, own 3 (eI .i64) (some ad7) 1 [w64 (4 * (a0.Words.length : Int))], box g2 26 [.slice A0_1 a0.Words.length c0_1, .slice A0_2 a0.Sites.length c0_2, .slice A0_3 a0.Syms.length c0_3]] → object_May.j8 a0 v104 = some r → KR72 (.bool v104) w := by
      intro v104 w hw H
      unfold object_May.j8 at H
      refine hKR72 _ _ ?_
      intro a hs1; have hs : Slots a _ [(1, .pointer (some (⟨g2, 0, none⟩ : Addr))), (5, .func (.func 31) #[] #[.pointer (some ad7)]), (47, .bool v104)] := hs1.kx; clear hs1
      refine go_pvs 4 [47] [(45, .bool (!v104))] hs ?_; clear hs; intro a hs
      refine go_end (hK71 _ _ ?_)
      refine go_cond hs (!v104) (fun hc => ?_) fun hc => ?_
      ·replace H := ite_f H (ff (nt hc))
       have hb105 := hc
       rw [hb105] at hs
       refine go_sp [1, 5, 45] [(2, .int .i64 9)] hs ?_; clear hs; intro a hs
       refine wp_ret ?_
       refine ib_ret ?_
       refine th_ret ?_
       obtain rfl := Option.some.inj H
       refine ret1 (t := 2) (v := .int .i64 9) hs (by kernel_rfl) (by kernel_rfl) ?_
       exact ⟨rfl, hw.only 0⟩
      ·replace H := ite_t H (nf hc)
       have hb107 := hc
       rw [hb107] at hs
       refine go_sk fun K108 hK108 => ?_
       refine go_pvs 1 [1, 45] [(50, .pointer (some (((⟨g2, 0, none⟩ : Addr) : Addr).add 2)))] hs ?_; clear hs; intro a hs
       refine go_run hs (by rfl) (x_bld (g := g2) (o := 2) (p := ((⟨g2, 0, none⟩ : Addr) : Addr).add 2) (v := .slice A0_3 a0.Syms.length c0_3) (hw.up 2)) [50] ?_; clear hs; intro a hs
       refine go_pvs 3 [5] [(52, .func (.func 31) #[] #[.pointer (some ad7)])] hs ?_; clear hs; intro a hs
       refine go_inline_k hs (by rfl) (f := 35) (args := #[.slice A0_3 a0.Syms.length c0_3, .func (.func 31) #[] #[.pointer (some ad7)]]) (fun KR109 hKR109 => ?_)
       refine go_fn Tryd.func35 rfl Tryd.ntmps35 ?_; clear hs; intro a hs
       refine go_sp [] [] hs ?_; clear hs; intro a hs
       refine go_sk fun K111 hK111 => ?_
       refine go_pvs 2 [0, 1] [(5, .slice A0_3 a0.Syms.length c0_3), (6, .func (.func 31) #[] #[.pointer (some ad7)])] hs ?_; clear hs; intro a hs
       refine go_inline_k hs (by rfl) (f := 59) (args := #[.slice A0_3 a0.Syms.length c0_3, .func (.func 31) #[] #[.pointer (some ad7)]]) (fun KR112 hKR112 => ?_)
       refine go_fn Tryd.func59 rfl Tryd.ntmps59 ?_; clear hs; intro a hs
       have hJ11 : ∀ (v141 : Int) (w : World), St [] w0 w [own 37 (eI .u32) Aa29 cc30 t25, own 3 (eI .i64) (some ad7) 1 [w64 (4 * (a0.Words.length : Int))], box g2 26 [.slice A0_1 a0.Words.length c0_1, .slice A0_2 a0.Sites.length c0_2, .slice A0_3 a0.Syms.length c0_3]] → object_May.j11 v141 = some r → KR112 (.int .i64 v141) w := by
        intro v141 w hw H
        unfold object_May.j11 at H
        refine hKR112 _ _ ?_
        intro a hs1; have hs : Slots a _ [(7, .int .i64 v141)] := hs1.kx; clear hs1
        refine go_pvs 5 [7] [(4, .bool (decide (v141 ≥ 0)))] hs ?_; clear hs; intro a hs
        refine go_end (hK111 _ _ ?_)
        refine wp_ret ?_
        refine ret1 (t := 4) (v := .bool (decide (v141 ≥ 0))) hs (by kernel_rfl) (by kernel_rfl) ?_
        refine ⟨_, rfl, ?_⟩
        refine hKR109 _ _ ?_
        intro a hs1; have hs : Slots a _ [(53, .bool (decide (v141 ≥ 0)))] := hs1.kx; clear hs1
        refine go_pvs 5 [53] [(49, .bool (decide (v141 ≥ 0)))] hs ?_; clear hs; intro a hs
        refine go_end (hK108 _ _ ?_)
        refine go_cond hs (decide (v141 ≥ 0)) (fun hc => ?_) fun hc => ?_
        ·replace H := ite_t H (of_decide_eq_true hc)
         have hb142 := hc
         rw [hb142] at hs
         refine go_sp [49] [(2, .int .i64 8)] hs ?_; clear hs; intro a hs
         refine wp_ret ?_
         refine ib_ret ?_
         refine th_ret ?_
         obtain rfl := Option.some.inj H
         refine ret1 (t := 2) (v := .int .i64 8) hs (by kernel_rfl) (by kernel_rfl) ?_
         exact ⟨rfl, hw.only 0⟩
        ·replace H := ite_f H (of_decide_eq_false hc)
         have hb144 := hc
         rw [hb144] at hs
         refine wp_skip ?_
         refine ib_norm ?_
         refine hK34 _ _ ?_
         refine go_sp [49] [(2, .int .i64 0)] hs ?_; clear hs; intro a hs
         refine wp_ret ?_
         obtain rfl := Option.some.inj H
         refine ret1 (t := 2) (v := .int .i64 0) hs (by kernel_rfl) (by kernel_rfl) ?_
         exact ⟨rfl, hw.only 0⟩
       refine go_sp [] [] hs ?_; clear hs; intro a hs
       refine go_seq_k fun K114 hK114 => ?_
       refine go_sp [] [(7, .int .i64 (a0.Syms.length : Int)), (8, .int .i64 0)] hs ?_; clear hs; intro a hs
       refine wp_block ?_
       obtain ⟨e116, hl116, HX116⟩ := bind_some H
       have hJ10 : ∀ (a : Act) (w : World), Slots a 19 [] → St [] w0 w [own 37 (eI .u32) Aa29 cc30 t25, own 3 (eI .i64) (some ad7) 1 [w64 (4 * (a0.Words.length : Int))], box g2 26 [.slice A0_1 a0.Words.length c0_1, .slice A0_2 a0.Sites.length c0_2, .slice A0_3 a0.Syms.length c0_3]] → object_May.j10 = some r → K114 a w := by
        intro a w hs hw H
        unfold object_May.j10 at H
        refine hK114 _ _ ?_
        refine go_sp [] [(4, .int .i64 (-1))] hs ?_; clear hs; intro a hs
        refine wp_ret ?_
        refine ret1 (t := 4) (v := .int .i64 (-1)) hs (by kernel_rfl) (by kernel_rfl) ?_
        refine ⟨_, rfl, ?_⟩
        replace hw := hw.up 2
        replace hw := hw.up 2
        replace hw := hw.up 2
        exact hJ11 (-1) _ hw H
       clear H
       refine go_loop (σ := Int) (fun σ a w => Slots a 19 [(0, .slice A0_3 a0.Syms.length c0_3), (1, .func (.func 31) #[] #[.pointer (some ad7)]), (7, .int .i64 (a0.Syms.length : Int)), (8, .int .i64 σ)] ∧ St [] w0 w [own 37 (eI .u32) Aa29 cc30 t25, own 3 (eI .i64) (some ad7) 1 [w64 (4 * (a0.Words.length : Int))], box g2 26 [.slice A0_1 a0.Words.length c0_1, .slice A0_2 a0.Sites.length c0_2, .slice A0_3 a0.Syms.length c0_3]]) hl116 (by exact ⟨hs.kx, hw⟩) ?_
       rintro v117 a w ⟨hs, hw⟩ o H hr116
       replace hs : Slots a 19 [(0, .slice A0_3 a0.Syms.length c0_3), (1, .func (.func 31) #[] #[.pointer (some ad7)]), (7, .int .i64 (a0.Syms.length : Int)), (8, .int .i64 v117)] := hs
       replace hw : St [] w0 w [own 37 (eI .u32) Aa29 cc30 t25, own 3 (eI .i64) (some ad7) 1 [w64 (4 * (a0.Words.length : Int))], box g2 26 [.slice A0_1 a0.Words.length c0_1, .slice A0_2 a0.Sites.length c0_2, .slice A0_3 a0.Syms.length c0_3]] := hw
       replace H : object_May.b116 a0 v117 = some o := H
       unfold object_May.b116 at H
       refine go_sp [] [(9, .bool (decide (v117 < (a0.Syms.length : Int))))] hs ?_; clear hs; intro a hs
       refine go_seq_k fun K119 hK119 => ?_
       refine go_cond hs (decide (v117 < (a0.Syms.length : Int))) (fun hc => ?_) fun hc => ?_
       ·replace H := ite_t H (of_decide_eq_true hc)
        have hb120 := hc
        rw [hb120] at hs
        refine wp_skip ?_
        refine hK119 _ _ ?_
        refine go_seq_k fun K121 hK121 => ?_
        refine wp_block ?_
        refine go_sp [9] [(5, .int .i64 v117)] hs ?_; clear hs; intro a hs
        refine go_sk fun K123 hK123 => ?_
        refine go_pvs 3 [] [(11, .func (.func 31) #[] #[.pointer (some ad7)]), (12, .slice A0_3 a0.Syms.length c0_3), (13, .int .i64 v117)] hs ?_; clear hs; intro a hs
        obtain ⟨hp124, H⟩ := ite_only H
        obtain ⟨ad125, rfl⟩ := (hr0_3.old hw).some hp124.1 hp124.2
        refine go_run hs (by rfl) (x_idx (T := 39) (sz := 2) (a := ad125) (n := a0.Syms.length) (cap := c0_3) (k := .i64) (i := v117) hp124) [12, 13] ?_; clear hs; intro a hs
        refine go_run hs (by rfl) (x_lds (off := 0) (p := ad125.add (v117.toNat * 2)) (cs := [.string ((ix eSapi_Sym.d a0.Syms v117).Name), .int .i64 ((ix eSapi_Sym.d a0.Syms v117).At)]) (hr0_3.old hw) hp124 rfl) [14] ?_; clear hs; intro a hs
        refine go_inline_k hs (by rfl) (f := 31) (args := #[.agg #[.string ((ix eSapi_Sym.d a0.Syms v117).Name), .int .i64 ((ix eSapi_Sym.d a0.Syms v117).At)], .pointer (some ad7)]) (fun KR126 hKR126 => ?_)
        refine go_fn Tryd.func31 rfl Tryd.ntmps31 ?_; clear hs; intro a hs
        refine go_sk fun K127 hK127 => ?_
        obtain ⟨ad128, wd129, hx130, hw⟩ := x_box1 (P := Tryd.prog) (elem := 39) (v := (Operand.tmp 0)) (ty := 0) hs hw eSapi_Sym (ix eSapi_Sym.d a0.Syms v117) (by kernel_rfl)
        refine go_run hs (by rfl) hx130 [0] ?_; clear hs; intro a hs
        refine go_pvs 2 [] [] hs ?_; clear hs; intro a hs
        refine go_end (hK127 _ _ ?_)
        refine go_seq_k fun K132 hK132 => ?_
        have hJ9 : ∀ (v135 : Bool) (a : Act) (w : World), Slots a 19 [(3, .bool v135)] → St [] w0 w [own 39 eSapi_Sym (some ad128) 1 [(ix eSapi_Sym.d a0.Syms v117)], own 37 (eI .u32) Aa29 cc30 t25, own 3 (eI .i64) (some ad7) 1 [w64 (4 * (a0.Words.length : Int))], box g2 26 [.slice A0_1 a0.Words.length c0_1, .slice A0_2 a0.Sites.length c0_2, .slice (some ad125) a0.Syms.length c0_3]] → object_May.j9 v117 v135 = some o → K132 a w := by
         intro v135 a w hs hw H
         unfold object_May.j9 at H
         refine hK132 _ _ ?_
         refine wp_ret ?_
         refine ret1 (t := 3) (v := .bool v135) hs (by kernel_rfl) (by kernel_rfl) ?_
         refine ⟨_, rfl, ?_⟩
         refine hKR126 _ _ ?_
         intro a hs1; have hs : Slots a _ [(0, .slice (some ad125) a0.Syms.length c0_3), (1, .func (.func 31) #[] #[.pointer (some ad7)]), (5, .int .i64 v117), (7, .int .i64 (a0.Syms.length : Int)), (8, .int .i64 v117), (16, .bool v135)] := hs1.kx; clear hs1
         refine go_end (hK123 _ _ ?_)
         refine go_cond hs v135 (fun hc => ?_) fun hc => ?_
         ·replace H := ite_t H hc
          have hb136 := hc
          rw [hb136] at hs
          refine go_sp [0, 1, 5, 7, 8, 16] [(4, .int .i64 v117)] hs ?_; clear hs; intro a hs
          refine wp_ret ?_
          refine ib_ret ?_
          refine th_ret ?_
          refine th_ret ?_
          refine ib_ret ?_
          refine th_ret ?_
          rw [← hr116 _ (Option.some.inj H).symm] at HX116
          replace H : object_May.j11 v117 = some r := HX116
          refine ret1 (t := 4) (v := .int .i64 v117) hs (by kernel_rfl) (by kernel_rfl) ?_
          refine ⟨_, rfl, ?_⟩
          replace hw := hw.up 3
          replace hw := hw.up 3
          replace hw := hw.up 3
          replace hw := hw.only 3
          exact hJ11 v117 _ hw H
         ·replace H := ite_f H (ff hc)
          have hb138 := hc
          rw [hb138] at hs
          refine wp_skip ?_
          refine ib_norm ?_
          refine hK121 _ _ ?_
          refine go_plain [5, 16] [(8, .int .i64 (w64 (v117 + 1)))] hs ?_; clear hs; intro a hs
          replace hw := hw.up 3
          replace hw := hw.up 3
          replace hw := hw.up 3
          replace hw := hw.only 3
          exact round_end (w64 (v117 + 1)) (Option.some.inj H).symm ⟨hs.kx, hw⟩
        refine go_region ?_
        refine go_pvs 1 [] [(4, .pointer (some ((ad128 : Addr).add 1)))] hs ?_; clear hs; intro a hs
        refine go_run hs (by rfl) (x_ld (off := 1) (p := (ad128 : Addr).add 1) (v := .int .i64 ((ix eSapi_Sym.d a0.Syms v117).At)) (Rd.of_own (hw.up 0)) (one_ok (ix eSapi_Sym.d a0.Syms v117)) (one_off _ _ _)) [4] ?_; clear hs; intro a hs
        refine go_pvs 4 [5] [(7, .bool (decide (((ix eSapi_Sym.d a0.Syms v117).At) < 0)))] hs ?_; clear hs; intro a hs
        cases hb133 : (decide (((ix eSapi_Sym.d a0.Syms v117).At) < 0))
        ·replace H := ite_f H (of_decide_eq_false hb133)
         rw [hb133] at hs
         refine go_pvs 5 [] [(8, .pointer (some ((ad128 : Addr).add 1)))] hs ?_; clear hs; intro a hs
         refine go_run hs (by rfl) (x_ld (off := 1) (p := (ad128 : Addr).add 1) (v := .int .i64 ((ix eSapi_Sym.d a0.Syms v117).At)) (Rd.of_own (hw.up 0)) (one_ok (ix eSapi_Sym.d a0.Syms v117)) (one_off _ _ _)) [8] ?_; clear hs; intro a hs
         refine go_run hs (by rfl) (x_ld (off := 0) (p := ad7) (v := .int .i64 (w64 (4 * (a0.Words.length : Int)))) (Rd.of_own (hw.up 2)) (one_ok (w64 (4 * (a0.Words.length : Int)))) (one_at _ _)) [1] ?_; clear hs; intro a hs
         refine go_pvs 10 [7, 9, 10] [(13, .bool (decide (((ix eSapi_Sym.d a0.Syms v117).At) > (w64 (4 * (a0.Words.length : Int))))))] hs ?_; clear hs; intro a hs
         cases hb134 : (decide (((ix eSapi_Sym.d a0.Syms v117).At) > (w64 (4 * (a0.Words.length : Int)))))
         ·replace H := ite_f H (of_decide_eq_false hb134)
          rw [hb134] at hs
          refine go_pvs 11 [2] [(14, .pointer (some ((ad128 : Addr).add 1)))] hs ?_; clear hs; intro a hs
          refine go_run hs (by rfl) (x_ld (off := 1) (p := (ad128 : Addr).add 1) (v := .int .i64 ((ix eSapi_Sym.d a0.Syms v117).At)) (Rd.of_own (hw.up 0)) (one_ok (ix eSapi_Sym.d a0.Syms v117)) (one_off _ _ _)) [14] ?_; clear hs; intro a hs
          refine go_pvs 16 [13, 15] [(3, .bool ((((ix eSapi_Sym.d a0.Syms v117).At).tmod 4) != 0))] hs ?_; clear hs; intro a hs
          refine go_end ?_
          replace hw := hw.up 3
          replace hw := hw.up 3
          replace hw := hw.up 3
          replace hw := hw.up 3
          exact hJ9 ((((ix eSapi_Sym.d a0.Syms v117).At).tmod 4) != 0) _ _ hs.kx hw H
         ·replace H := ite_t H (of_decide_eq_true hb134)
          rw [hb134] at hs
          refine go_pvs 16 [2, 13] [(3, .bool true)] hs ?_; clear hs; intro a hs
          refine go_end ?_
          replace hw := hw.up 3
          replace hw := hw.up 3
          replace hw := hw.up 3
          replace hw := hw.up 3
          exact hJ9 true _ _ hs.kx hw H
        ·replace H := ite_t H (of_decide_eq_true hb133)
         rw [hb133] at hs
         refine go_pvs 16 [1, 2, 7] [(3, .bool true)] hs ?_; clear hs; intro a hs
         refine go_end ?_
         replace hw := hw.up 3
         replace hw := hw.up 3
         replace hw := hw.up 3
         replace hw := hw.up 3
         exact hJ9 true _ _ hs.kx hw H
       ·replace H := ite_f H (of_decide_eq_false hc)
        have hb139 := hc
        rw [hb139] at hs
        refine wp_exit ?_
        refine th_exit ?_
        refine th_exit ?_
        refine in_block ?_
        replace hw := hw.up 2
        replace hw := hw.up 2
        replace hw := hw.up 2
        rw [← hr116 _ (Option.some.inj H).symm] at HX116
        exact hJ10 _ _ hs.kx hw HX116
     refine go_sp [] [] hs ?_; clear hs; intro a hs
     refine go_seq_k fun K74 hK74 => ?_
     refine go_sk fun K75 hK75 => ?_
     refine go_pvs 1 [] [(4, .pointer (some (((⟨g2, 0, none⟩ : Addr) : Addr).add 2)))] hs ?_; clear hs; intro a hs
     refine go_run hs (by rfl) (x_bld (g := g2) (o := 2) (p := ((⟨g2, 0, none⟩ : Addr) : Addr).add 2) (v := .slice A0_3 a0.Syms.length c0_3) (hw.up 2)) [4] ?_; clear hs; intro a hs
     refine go_pvs 4 [] [(6, .int .i64 (a0.Syms.length : Int)), (7, .int .i64 0)] hs ?_; clear hs; intro a hs
     refine go_end (hK75 _ _ ?_)
     refine wp_block ?_
     obtain ⟨e76, hl76, HX76⟩ := bind_some H
     have hJ7 : ∀ (a : Act) (w : World), Slots a 33 [] → St [] w0 w [own 37 (eI .u32) Aa29 cc30 t25, own 3 (eI .i64) (some ad7) 1 [w64 (4 * (a0.Words.length : Int))], box g2 26 [.slice A0_1 a0.Words.length c0_1, .slice A0_2 a0.Sites.length c0_2, .slice A0_3 a0.Syms.length c0_3]] → object_May.j7 a0 = some r → K74 a w := by
      intro a w hs hw H
      unfold object_May.j7 at H
      refine hK74 _ _ ?_
      refine go_sp [] [(1, .bool true)] hs ?_; clear hs; intro a hs
      refine wp_ret ?_
      refine ret1 (t := 1) (v := .bool true) hs (by kernel_rfl) (by kernel_rfl) ?_
      refine ⟨_, rfl, ?_⟩
      replace hw := hw.up 2
      replace hw := hw.up 2
      replace hw := hw.up 2
      exact hJ8 true _ hw H
     clear H
     refine go_loop (σ := Int) (fun σ a w => Slots a 33 [(0, .pointer (some (⟨g2, 0, none⟩ : Addr))), (5, .slice A0_3 a0.Syms.length c0_3), (6, .int .i64 (a0.Syms.length : Int)), (7, .int .i64 σ)] ∧ St [] w0 w [own 37 (eI .u32) Aa29 cc30 t25, own 3 (eI .i64) (some ad7) 1 [w64 (4 * (a0.Words.length : Int))], box g2 26 [.slice A0_1 a0.Words.length c0_1, .slice A0_2 a0.Sites.length c0_2, .slice A0_3 a0.Syms.length c0_3]]) hl76 (by exact ⟨hs.kx, hw⟩) ?_
     rintro v77 a w ⟨hs, hw⟩ o H hr76
     replace hs : Slots a 33 [(0, .pointer (some (⟨g2, 0, none⟩ : Addr))), (5, .slice A0_3 a0.Syms.length c0_3), (6, .int .i64 (a0.Syms.length : Int)), (7, .int .i64 v77)] := hs
     replace hw : St [] w0 w [own 37 (eI .u32) Aa29 cc30 t25, own 3 (eI .i64) (some ad7) 1 [w64 (4 * (a0.Words.length : Int))], box g2 26 [.slice A0_1 a0.Words.length c0_1, .slice A0_2 a0.Sites.length c0_2, .slice A0_3 a0.Syms.length c0_3]] := hw
     replace H : object_May.b76 a0 v77 = some o := H
     unfold object_May.b76 at H
     refine go_sp [] [(8, .bool (decide (v77 < (a0.Syms.length : Int))))] hs ?_; clear hs; intro a hs
     refine go_seq_k fun K79 hK79 => ?_
     refine go_cond hs (decide (v77 < (a0.Syms.length : Int))) (fun hc => ?_) fun hc => ?_
     ·replace H := ite_t H (of_decide_eq_true hc)
      have hb80 := hc
      rw [hb80] at hs
      refine wp_skip ?_
      refine hK79 _ _ ?_
      refine go_seq_k fun K81 hK81 => ?_
      have hJ6 : ∀ (a : Act) (w : World), Slots a 33 [(0, .pointer (some (⟨g2, 0, none⟩ : Addr))), (5, .slice A0_3 a0.Syms.length c0_3), (6, .int .i64 (a0.Syms.length : Int)), (7, .int .i64 v77)] → St [] w0 w [own 37 (eI .u32) Aa29 cc30 t25, own 3 (eI .i64) (some ad7) 1 [w64 (4 * (a0.Words.length : Int))], box g2 26 [.slice A0_1 a0.Words.length c0_1, .slice A0_2 a0.Sites.length c0_2, .slice A0_3 a0.Syms.length c0_3]] → object_May.j6 v77 = some o → K81 a w := by
       intro a w hs hw H
       unfold object_May.j6 at H
       refine hK81 _ _ ?_
       refine go_plain [] [(7, .int .i64 (w64 (v77 + 1)))] hs ?_; clear hs; intro a hs
       replace hw := hw.up 2
       replace hw := hw.up 2
       replace hw := hw.up 2
       exact round_end (w64 (v77 + 1)) (Option.some.inj H).symm ⟨hs.kx, hw⟩
      refine wp_block ?_
      refine go_sk fun K82 hK82 => ?_
      refine go_pvs 1 [8] [(9, .int .i64 v77)] hs ?_; clear hs; intro a hs
      obtain ⟨hp83, H⟩ := ite_only H
      obtain ⟨ad84, rfl⟩ := (hr0_3.old hw).some hp83.1 hp83.2
      refine go_run hs (by rfl) (x_idx (T := 39) (sz := 2) (a := ad84) (n := a0.Syms.length) (cap := c0_3) (k := .i64) (i := v77) hp83) [] ?_; clear hs; intro a hs
      refine go_run hs (by rfl) (x_lds (off := 0) (p := ad84.add (v77.toNat * 2)) (cs := [.string ((ix eSapi_Sym.d a0.Syms v77).Name), .int .i64 ((ix eSapi_Sym.d a0.Syms v77).At)]) (hr0_3.old hw) hp83 rfl) [10] ?_; clear hs; intro a hs
      obtain ⟨ad85, wd86, hx87, hw⟩ := x_alloc1 (P := Tryd.prog) (elem := 39) (ty := 0) (z := .agg #[.string (⟨#[]⟩ : ByteArray), .int .i64 0]) hs hw eSapi_Sym (⟨(⟨#[]⟩ : ByteArray), 0⟩ : Sapi_Sym) (by kernel_rfl) (by kernel_rfl)
      refine go_run hs (by rfl) hx87 [] ?_; clear hs; intro a hs
      refine go_pvs 5 [9] [(2, .int .i64 v77)] hs ?_; clear hs; intro a hs
      obtain ⟨wd89, hx90, hw⟩ := x_put (P := Tryd.prog) (ty := 0) (t := 39) (x := (Operand.tmp 3)) (y := (Operand.tmp 11)) (off := 0) (p := ad85) (v := .agg #[.string ((ix eSapi_Sym.d a0.Syms v77).Name), .int .i64 ((ix eSapi_Sym.d a0.Syms v77).At)]) (vs := [.string ((ix eSapi_Sym.d a0.Syms v77).Name), .int .i64 ((ix eSapi_Sym.d a0.Syms v77).At)]) (i := 0) (e' := (((ix eSapi_Sym.d a0.Syms v77) : Sapi_Sym) : Sapi_Sym)) hs hw rfl (one_ok (⟨(⟨#[]⟩ : ByteArray), 0⟩ : Sapi_Sym)).1 (one_ok (⟨(⟨#[]⟩ : ByteArray), 0⟩ : Sapi_Sym)).2 (by kernel_rfl) (one_at _ _) (by kernel_rfl) rfl (by kernel_rfl) (Nat.le_of_ble_eq_true rfl) (by simp [Value.oneCell']) (by kernel_rfl)
      refine go_unit hs (by rfl) hx90 [11] ?_; clear hs; intro a hs
      replace hw : St [] w0 wd89 [own 39 eSapi_Sym (some ad85) 1 [((ix eSapi_Sym.d a0.Syms v77) : Sapi_Sym)], own 37 (eI .u32) Aa29 cc30 t25, own 3 (eI .i64) (some ad7) 1 [w64 (4 * (a0.Words.length : Int))], box g2 26 [.slice A0_1 a0.Words.length c0_1, .slice A0_2 a0.Sites.length c0_2, .slice (some ad84) a0.Syms.length c0_3]] := hw
      refine go_end (hK82 _ _ ?_)
      refine go_seq_k fun K91 hK91 => ?_
      have hJ5 : ∀ (v98 : Bool) (a : Act) (w : World), Slots a 33 [(0, .pointer (some (⟨g2, 0, none⟩ : Addr))), (5, .slice (some ad84) a0.Syms.length c0_3), (6, .int .i64 (a0.Syms.length : Int)), (7, .int .i64 v77), (31, .bool v98)] → St [] w0 w [own 39 eSapi_Sym (some ad85) 1 [((ix eSapi_Sym.d a0.Syms v77) : Sapi_Sym)], own 37 (eI .u32) Aa29 cc30 t25, own 3 (eI .i64) (some ad7) 1 [w64 (4 * (a0.Words.length : Int))], box g2 26 [.slice A0_1 a0.Words.length c0_1, .slice A0_2 a0.Sites.length c0_2, .slice (some ad84) a0.Syms.length c0_3]] → object_May.j5 v77 v98 = some o → K91 a w := by
       intro v98 a w hs hw H
       unfold object_May.j5 at H
       refine hK91 _ _ ?_
       refine go_cond hs v98 (fun hc => ?_) fun hc => ?_
       ·replace H := ite_t H hc
        have hb99 := hc
        rw [hb99] at hs
        refine go_sp [0, 5, 6, 7, 31] [(1, .bool false)] hs ?_; clear hs; intro a hs
        refine wp_ret ?_
        refine ib_ret ?_
        refine th_ret ?_
        refine th_ret ?_
        refine ib_ret ?_
        refine th_ret ?_
        rw [← hr76 _ (Option.some.inj H).symm] at HX76
        replace H : object_May.j8 a0 false = some r := HX76
        refine ret1 (t := 1) (v := .bool false) hs (by kernel_rfl) (by kernel_rfl) ?_
        refine ⟨_, rfl, ?_⟩
        replace hw := hw.up 3
        replace hw := hw.up 3
        replace hw := hw.up 3
        replace hw := hw.only 3
        exact hJ8 false _ hw H
       ·replace H := ite_f H (ff hc)
        have hb101 := hc
        rw [hb101] at hs
        refine wp_skip ?_
        refine ib_norm ?_
        replace hw := hw.up 3
        replace hw := hw.up 3
        replace hw := hw.up 3
        replace hw := hw.only 3
        exact hJ6 _ _ hs.kx hw H
      refine q2_region (by kernel_rfl) (by kernel_rfl) ?_
      refine q_pvs 1 [] [(12, .pointer (some ((ad85 : Addr).add 0)))] hs ?_; clear hs; intro a hs
      refine q_run hs (by rfl) (fun wx hbx => (x_ld (off := 0) (p := (ad85 : Addr).add 0) (v := .string (((ix eSapi_Sym.d a0.Syms v77) : Sapi_Sym).Name)) ((Rd.of_own (hw.up 0)).below hbx) (one_ok ((ix eSapi_Sym.d a0.Syms v77) : Sapi_Sym)) (one_off _ _ _))) [12] ?_; clear hs; intro a hs
      obtain ⟨t93, hx94, H⟩ := bind_some H
      refine q_call hs (by rfl) (fun wx hbx => (le_Name.calls (((ix eSapi_Sym.d a0.Syms v77) : Sapi_Sym).Name) t93 _ hx94).mono fun e wy h => ⟨h.1, below_st hbx h.2⟩) [13] ?_; clear hs; intro a hs
      refine q_pvs 5 [14] [(16, .bool (!t93))] hs ?_; clear hs; intro a hs
      cases hb95 : (!t93)
      ·replace H := ite_t H (nf hb95)
       rw [hb95] at hs
       refine q_pvs 8 [] [(19, .bool (decide (v77 > 0)))] hs ?_; clear hs; intro a hs
       cases hb96 : (decide (v77 > 0))
       ·replace H := ite_f H (of_decide_eq_false hb96)
        rw [hb96] at hs
        refine q_pvs 20 [2, 3, 16, 19] [(31, .bool false)] hs ?_; clear hs; intro a hs
        refine q_end ?_
        intro wq hbq
        replace hw := hw.behind hbq
        replace hw := hw.up 3
        replace hw := hw.up 3
        replace hw := hw.up 3
        replace hw := hw.up 3
        exact hJ5 false _ _ hs.kx hw H
       ·replace H := ite_t H (of_decide_eq_true hb96)
        rw [hb96] at hs
        refine q_pvs 9 [3] [(20, .pointer (some ((ad85 : Addr).add 0)))] hs ?_; clear hs; intro a hs
        refine q_run hs (by rfl) (fun wx hbx => (x_ld (off := 0) (p := (ad85 : Addr).add 0) (v := .string (((ix eSapi_Sym.d a0.Syms v77) : Sapi_Sym).Name)) ((Rd.of_own (hw.up 0)).below hbx) (one_ok ((ix eSapi_Sym.d a0.Syms v77) : Sapi_Sym)) (one_off _ _ _))) [20] ?_; clear hs; intro a hs
        refine q_pvs 11 [] [(22, .pointer (some (((⟨g2, 0, none⟩ : Addr) : Addr).add 2)))] hs ?_; clear hs; intro a hs
        refine q_run hs (by rfl) (fun wx hbx => (x_bld (g := g2) (o := 2) (p := ((⟨g2, 0, none⟩ : Addr) : Addr).add 2) (v := .slice (some ad84) a0.Syms.length c0_3) ((hw.behind hbx).up 3))) [22] ?_; clear hs; intro a hs
        refine q_pvs 14 [2] [(25, .int .i64 (w64 (v77 - 1)))] hs ?_; clear hs; intro a hs
        obtain ⟨hp97, H⟩ := ite_only H
        refine q_run hs (by rfl) (fun wx hbx => (x_idx (T := 39) (sz := 2) (a := ad84) (n := a0.Syms.length) (cap := c0_3) (k := .i64) (i := (w64 (v77 - 1))) hp97)) [23, 25] ?_; clear hs; intro a hs
        refine q_pvs 16 [26] [(27, .pointer (some ((ad84.add ((w64 (v77 - 1)).toNat * 2) : Addr).add 0)))] hs ?_; clear hs; intro a hs
        refine q_run hs (by rfl) (fun wx hbx => (x_ld (off := 0) (p := (ad84.add ((w64 (v77 - 1)).toNat * 2) : Addr).add 0) (v := .string ((ix eSapi_Sym.d a0.Syms (w64 (v77 - 1))).Name)) ((hr0_3.old hw).below hbx) hp97 (by simp only [add_add', Nat.add_assoc]; rfl))) [27] ?_; clear hs; intro a hs
        refine q_pvs 20 [16, 19, 21, 28] [(31, .bool (Op.bytesLess (((ix eSapi_Sym.d a0.Syms v77) : Sapi_Sym).Name).toList ((ix eSapi_Sym.d a0.Syms (w64 (v77 - 1))).Name).toList || (((ix eSapi_Sym.d a0.Syms v77) : Sapi_Sym).Name).toList == ((ix eSapi_Sym.d a0.Syms (w64 (v77 - 1))).Name).toList))] hs ?_; clear hs; intro a hs
        refine q_end ?_
        intro wq hbq
        replace hw := hw.behind hbq
        replace hw := hw.up 3
        replace hw := hw.up 3
        replace hw := hw.up 3
        replace hw := hw.up 3
        exact hJ5 (Op.bytesLess (((ix eSapi_Sym.d a0.Syms v77) : Sapi_Sym).Name).toList ((ix eSapi_Sym.d a0.Syms (w64 (v77 - 1))).Name).toList || (((ix eSapi_Sym.d a0.Syms v77) : Sapi_Sym).Name).toList == ((ix eSapi_Sym.d a0.Syms (w64 (v77 - 1))).Name).toList) _ _ hs.kx hw H
      ·replace H := ite_f H (ff (nt hb95))
       rw [hb95] at hs
       refine q_pvs 20 [2, 3, 16] [(31, .bool true)] hs ?_; clear hs; intro a hs
       refine q_end ?_
       intro wq hbq
       replace hw := hw.behind hbq
       replace hw := hw.up 3
       replace hw := hw.up 3
       replace hw := hw.up 3
       replace hw := hw.up 3
       exact hJ5 true _ _ hs.kx hw H
     ·replace H := ite_f H (of_decide_eq_false hc)
      have hb102 := hc
      rw [hb102] at hs
      refine wp_exit ?_
      refine th_exit ?_
      refine th_exit ?_
      refine in_block ?_
      replace hw := hw.up 2
      replace hw := hw.up 2
      replace hw := hw.up 2
      rw [← hr76 _ (Option.some.inj H).symm] at HX76
      exact hJ7 _ _ hs.kx hw HX76
   refine go_sp [] [] hs ?_; clear hs; intro a hs
   refine go_seq_k fun K45 hK45 => ?_
   refine go_sp [] [(7, .int .i64 (a0.Sites.length : Int)), (8, .int .i64 0)] hs ?_; clear hs; intro a hs
   refine wp_block ?_
   obtain ⟨e47, hl47, HX47⟩ := bind_some H
   have hJ3 : ∀ (a : Act) (w : World), Slots a 19 [] → St [] w0 w [own 37 (eI .u32) Aa29 cc30 t25, own 3 (eI .i64) (some ad7) 1 [w64 (4 * (a0.Words.length : Int))], box g2 26 [.slice A0_1 a0.Words.length c0_1, .slice A0_2 a0.Sites.length c0_2, .slice A0_3 a0.Syms.length c0_3]] → object_May.j3 a0 = some r → K45 a w := by
    intro a w hs hw H
    unfold object_May.j3 at H
    refine hK45 _ _ ?_
    refine go_sp [] [(4, .int .i64 (-1))] hs ?_; clear hs; intro a hs
    refine wp_ret ?_
    refine ret1 (t := 4) (v := .int .i64 (-1)) hs (by kernel_rfl) (by kernel_rfl) ?_
    refine ⟨_, rfl, ?_⟩
    replace hw := hw.up 2
    replace hw := hw.up 2
    replace hw := hw.up 2
    exact hJ4 (-1) _ hw H
   clear H
   refine go_loop (σ := Int) (fun σ a w => Slots a 19 [(0, .slice A0_2 a0.Sites.length c0_2), (1, .func (.func 30) #[] #[.pointer (some (⟨g2, 0, none⟩ : Addr)), .pointer (some ad7)]), (7, .int .i64 (a0.Sites.length : Int)), (8, .int .i64 σ)] ∧ St [] w0 w [own 37 (eI .u32) Aa29 cc30 t25, own 3 (eI .i64) (some ad7) 1 [w64 (4 * (a0.Words.length : Int))], box g2 26 [.slice A0_1 a0.Words.length c0_1, .slice A0_2 a0.Sites.length c0_2, .slice A0_3 a0.Syms.length c0_3]]) hl47 (by exact ⟨hs.kx, hw⟩) ?_
   rintro v48 a w ⟨hs, hw⟩ o H hr47
   replace hs : Slots a 19 [(0, .slice A0_2 a0.Sites.length c0_2), (1, .func (.func 30) #[] #[.pointer (some (⟨g2, 0, none⟩ : Addr)), .pointer (some ad7)]), (7, .int .i64 (a0.Sites.length : Int)), (8, .int .i64 v48)] := hs
   replace hw : St [] w0 w [own 37 (eI .u32) Aa29 cc30 t25, own 3 (eI .i64) (some ad7) 1 [w64 (4 * (a0.Words.length : Int))], box g2 26 [.slice A0_1 a0.Words.length c0_1, .slice A0_2 a0.Sites.length c0_2, .slice A0_3 a0.Syms.length c0_3]] := hw
   replace H : object_May.b47 a0 v48 = some o := H
   unfold object_May.b47 at H
   refine go_sp [] [(9, .bool (decide (v48 < (a0.Sites.length : Int))))] hs ?_; clear hs; intro a hs
   refine go_seq_k fun K50 hK50 => ?_
   refine go_cond hs (decide (v48 < (a0.Sites.length : Int))) (fun hc => ?_) fun hc => ?_
   ·replace H := ite_t H (of_decide_eq_true hc)
    have hb51 := hc
    rw [hb51] at hs
    refine wp_skip ?_
    refine hK50 _ _ ?_
    refine go_seq_k fun K52 hK52 => ?_
    refine wp_block ?_
    refine go_sp [9] [(5, .int .i64 v48)] hs ?_; clear hs; intro a hs
    refine go_sk fun K54 hK54 => ?_
    refine go_pvs 3 [] [(11, .func (.func 30) #[] #[.pointer (some (⟨g2, 0, none⟩ : Addr)), .pointer (some ad7)]), (12, .slice A0_2 a0.Sites.length c0_2), (13, .int .i64 v48)] hs ?_; clear hs; intro a hs
    obtain ⟨hp55, H⟩ := ite_only H
    obtain ⟨ad56, rfl⟩ := (hr0_2.old hw).some hp55.1 hp55.2
    refine go_run hs (by rfl) (x_idx (T := 3) (sz := 1) (a := ad56) (n := a0.Sites.length) (cap := c0_2) (k := .i64) (i := v48) hp55) [12, 13] ?_; clear hs; intro a hs
    refine go_run hs (by rfl) (x_ld (off := 0) (p := ad56.add (v48.toNat * 1)) (v := .int .i64 (ix (eI .i64).d a0.Sites v48)) (hr0_2.old hw) hp55 rfl) [14] ?_; clear hs; intro a hs
    refine go_inline_k hs (by rfl) (f := 30) (args := #[.int .i64 (ix (eI .i64).d a0.Sites v48), .pointer (some (⟨g2, 0, none⟩ : Addr)), .pointer (some ad7)]) (fun KR57 hKR57 => ?_)
    refine go_fn Tryd.func30 rfl Tryd.ntmps30 ?_; clear hs; intro a hs
    refine go_sp [] [] hs ?_; clear hs; intro a hs
    refine go_seq_k fun K59 hK59 => ?_
    refine q2_region (by kernel_rfl) (by kernel_rfl) ?_
    refine q_pvs 1 [1] [(5, .pointer (some (((⟨g2, 0, none⟩ : Addr) : Addr).add 0)))] hs ?_; clear hs; intro a hs
    refine q_run hs (by rfl) (fun wx hbx => (x_bld (g := g2) (o := 0) (p := ((⟨g2, 0, none⟩ : Addr) : Addr).add 0) (v := .slice A0_1 a0.Words.length c0_1) ((hw.behind hbx).up 2))) [5] ?_; clear hs; intro a hs
    refine q_pvs 3 [0] [(7, .int .i64 (ix (eI .i64).d a0.Sites v48))] hs ?_; clear hs; intro a hs
    obtain ⟨hp60, H⟩ := ite_only H
    obtain ⟨ad61, rfl⟩ := (hr0_1.old hw).some hp60.1 hp60.2
    refine q_run hs (by rfl) (fun wx hbx => (x_idx (T := 37) (sz := 1) (a := ad61) (n := a0.Words.length) (cap := c0_1) (k := .i64) (i := (ix (eI .i64).d a0.Sites v48)) hp60)) [6, 7] ?_; clear hs; intro a hs
    refine q_run hs (by rfl) (fun wx hbx => (x_ld (off := 0) (p := ad61.add ((ix (eI .i64).d a0.Sites v48).toNat * 1)) (v := .int .u32 (ix (eI .u32).d a0.Words (ix (eI .i64).d a0.Sites v48))) ((hr0_1.old hw).below hbx) hp60 rfl)) [8] ?_; clear hs; intro a hs
    refine q_pvs 6 [9] [(10, .int .i64 (w64 (ix (eI .u32).d a0.Words (ix (eI .i64).d a0.Sites v48))))] hs ?_; clear hs; intro a hs
    refine q_run hs (by rfl) (fun wx hbx => (x_ld (off := 0) (p := ad7) (v := .int .i64 (w64 (4 * (a0.Words.length : Int)))) ((Rd.of_own (hw.up 1)).below hbx) (one_ok (w64 (4 * (a0.Words.length : Int)))) (one_at _ _))) [2] ?_; clear hs; intro a hs
    refine q_pvs 9 [10, 11] [(4, .bool (decide ((w64 (ix (eI .u32).d a0.Words (ix (eI .i64).d a0.Sites v48))) > (w64 (4 * (a0.Words.length : Int))))))] hs ?_; clear hs; intro a hs
    refine q_end ?_
    intro wq hbq
    replace hw := hw.behind hbq
    refine hK59 _ _ ?_
    refine wp_ret ?_
    refine ret1 (t := 4) (v := .bool (decide ((w64 (ix (eI .u32).d a0.Words (ix (eI .i64).d a0.Sites v48))) > (w64 (4 * (a0.Words.length : Int)))))) hs (by kernel_rfl) (by kernel_rfl) ?_
    refine ⟨_, rfl, ?_⟩
    refine hKR57 _ _ ?_
    intro a hs1; have hs : Slots a _ [(0, .slice (some ad56) a0.Sites.length c0_2), (1, .func (.func 30) #[] #[.pointer (some (⟨g2, 0, none⟩ : Addr)), .pointer (some ad7)]), (5, .int .i64 v48), (7, .int .i64 (a0.Sites.length : Int)), (8, .int .i64 v48), (16, .bool (decide ((w64 (ix (eI .u32).d a0.Words (ix (eI .i64).d a0.Sites v48))) > (w64 (4 * (a0.Words.length : Int))))))] := hs1.kx; clear hs1
    refine go_end (hK54 _ _ ?_)
    refine go_cond hs (decide ((w64 (ix (eI .u32).d a0.Words (ix (eI .i64).d a0.Sites v48))) > (w64 (4 * (a0.Words.length : Int))))) (fun hc => ?_) fun hc => ?_
    ·replace H := ite_t H (of_decide_eq_true hc)
     have hb62 := hc
     rw [hb62] at hs
     refine go_sp [0, 1, 5, 7, 8, 16] [(4, .int .i64 v48)] hs ?_; clear hs; intro a hs
     refine wp_ret ?_
     refine ib_ret ?_
     refine th_ret ?_
     refine th_ret ?_
     refine ib_ret ?_
     refine th_ret ?_
     rw [← hr47 _ (Option.some.inj H).symm] at HX47
     replace H : object_May.j4 a0 v48 = some r := HX47
     refine ret1 (t := 4) (v := .int .i64 v48) hs (by kernel_rfl) (by kernel_rfl) ?_
     refine ⟨_, rfl, ?_⟩
     replace hw := hw.up 2
     replace hw := hw.up 2
     replace hw := hw.up 2
     exact hJ4 v48 _ hw H
    ·replace H := ite_f H (of_decide_eq_false hc)
     have hb64 := hc
     rw [hb64] at hs
     refine wp_skip ?_
     refine ib_norm ?_
     refine hK52 _ _ ?_
     refine go_plain [5, 16] [(8, .int .i64 (w64 (v48 + 1)))] hs ?_; clear hs; intro a hs
     replace hw := hw.up 2
     replace hw := hw.up 2
     replace hw := hw.up 2
     exact round_end (w64 (v48 + 1)) (Option.some.inj H).symm ⟨hs.kx, hw⟩
   ·replace H := ite_f H (of_decide_eq_false hc)
    have hb65 := hc
    rw [hb65] at hs
    refine wp_exit ?_
    refine th_exit ?_
    refine th_exit ?_
    refine in_block ?_
    replace hw := hw.up 2
    replace hw := hw.up 2
    replace hw := hw.up 2
    rw [← hr47 _ (Option.some.inj H).symm] at HX47
    exact hJ3 _ _ hs.kx hw HX47
 refine go_seq_k fun K17 hK17 => ?_
 have hJ1 : ∀ (v19 : Bool) (a : Act) (w : World), Slots a 54 [(1, .pointer (some (⟨g2, 0, none⟩ : Addr))), (4, .func (.func 30) #[] #[.pointer (some (⟨g2, 0, none⟩ : Addr)), .pointer (some ad7)]), (5, .func (.func 31) #[] #[.pointer (some ad7)]), (6, .func (.func 32) #[] #[.pointer (some (⟨g2, 0, none⟩ : Addr))]), (26, .bool v19)] → St [] w0 w [own 3 (eI .i64) (some ad7) 1 [w64 (4 * (a0.Words.length : Int))], box g2 26 [.slice A0_1 a0.Words.length c0_1, .slice A0_2 a0.Sites.length c0_2, .slice A0_3 a0.Syms.length c0_3]] → object_May.j1 a0 v19 = some r → K17 a w := by
  intro v19 a w hs hw H
  unfold object_May.j1 at H
  refine hK17 _ _ ?_
  refine go_cond hs v19 (fun hc => ?_) fun hc => ?_
  ·replace H := ite_t H hc
   have hb20 := hc
   rw [hb20] at hs
   refine go_sp [1, 4, 5, 6, 26] [(2, .int .i64 2)] hs ?_; clear hs; intro a hs
   refine wp_ret ?_
   refine th_ret ?_
   obtain rfl := Option.some.inj H
   refine ret1 (t := 2) (v := .int .i64 2) hs (by kernel_rfl) (by kernel_rfl) ?_
   exact ⟨rfl, hw.only 0⟩
  ·replace H := ite_f H (ff hc)
   have hb22 := hc
   rw [hb22] at hs
   refine wp_skip ?_
   replace hw := hw.up 1
   replace hw := hw.up 1
   exact hJ2 _ _ hs.kx hw H
 refine go_region ?_
 refine go_pvs 1 [] [(17, .pointer (some (((⟨g2, 0, none⟩ : Addr) : Addr).add 0)))] hs ?_; clear hs; intro a hs
 refine go_run hs (by rfl) (x_bld (g := g2) (o := 0) (p := ((⟨g2, 0, none⟩ : Addr) : Addr).add 0) (v := .slice A0_1 a0.Words.length c0_1) (hw.up 1)) [17] ?_; clear hs; intro a hs
 refine go_pvs 5 [18] [(21, .bool (decide ((a0.Words.length : Int) > 1024)))] hs ?_; clear hs; intro a hs
 cases hb18 : (decide ((a0.Words.length : Int) > 1024))
 ·replace H := ite_f H (of_decide_eq_false hb18)
  rw [hb18] at hs
  refine go_pvs 6 [] [(22, .pointer (some (((⟨g2, 0, none⟩ : Addr) : Addr).add 2)))] hs ?_; clear hs; intro a hs
  refine go_run hs (by rfl) (x_bld (g := g2) (o := 2) (p := ((⟨g2, 0, none⟩ : Addr) : Addr).add 2) (v := .slice A0_3 a0.Syms.length c0_3) (hw.up 1)) [22] ?_; clear hs; intro a hs
  refine go_pvs 10 [21, 23] [(26, .bool (decide ((a0.Syms.length : Int) > 64)))] hs ?_; clear hs; intro a hs
  refine go_end ?_
  replace hw := hw.up 1
  replace hw := hw.up 1
  exact hJ1 (decide ((a0.Syms.length : Int) > 64)) _ _ hs.kx hw H
 ·replace H := ite_t H (of_decide_eq_true hb18)
  rw [hb18] at hs
  refine go_pvs 10 [21] [(26, .bool true)] hs ?_; clear hs; intro a hs
  refine go_end ?_
  replace hw := hw.up 1
  replace hw := hw.up 1
  exact hJ1 true _ _ hs.kx hw H

/-! rivet/rivetref09.May: function 16 -/
noncomputable def rivetref09_May.b26 (a0 : Sapi_Obj) (v27 : Int) : Option (Int ⊕ (Ex Int Unit)) := (if v27 < (a0.Sites.length : Int) then (if 0 ≤ v27 ∧ v27 < (a0.Sites.length : Int) then (if 0 ≤ (ix (eI .i64).d a0.Sites v27) ∧ (ix (eI .i64).d a0.Sites v27) < (a0.Words.length : Int) then (if (w64 (ix (eI .u32).d a0.Words (ix (eI .i64).d a0.Sites v27))) > (w64 (4 * (a0.Words.length : Int))) then some (.inr (.ret 8)) else some (.inl (w64 (v27 + 1)))) else none) else none) else some (.inr (.done ())))
noncomputable def rivetref09_May.j5 (v44 : Int) : Option (Int ⊕ (Ex Int Unit)) := some (.inl (w64 (v44 + 1)))
noncomputable def rivetref09_May.j4 (v44 : Int) (v59 : Bool) : Option (Int ⊕ (Ex Int Unit)) := (if v59 = true then some (.inr (.ret 9)) else rivetref09_May.j5 v44)
noncomputable def rivetref09_May.b43 (a0 : Sapi_Obj) (v44 : Int) : Option (Int ⊕ (Ex Int Unit)) := (if v44 < (a0.Syms.length : Int) then (if 0 ≤ v44 ∧ v44 < (a0.Syms.length : Int) then ((rivetref07_Name ((ix eSapi_Sym.d a0.Syms v44).Name)).bind fun t53 => ((if t53 = true then (if v44 > 0 then (if 0 ≤ v44 ∧ v44 < (a0.Syms.length : Int) then (if 0 ≤ (w64 (v44 - 1)) ∧ (w64 (v44 - 1)) < (a0.Syms.length : Int) then rivetref09_May.j4 v44 (Op.bytesLess ((ix eSapi_Sym.d a0.Syms v44).Name).toList ((ix eSapi_Sym.d a0.Syms (w64 (v44 - 1))).Name).toList || ((ix eSapi_Sym.d a0.Syms v44).Name).toList == ((ix eSapi_Sym.d a0.Syms (w64 (v44 - 1))).Name).toList) else none) else none) else rivetref09_May.j4 v44 false) else rivetref09_May.j4 v44 true))) else none) else some (.inr (.done ())))
noncomputable def rivetref09_May.j8 (v67 : Int) : Option (Int ⊕ (Ex Int Unit)) := some (.inl (w64 (v67 + 1)))
noncomputable def rivetref09_May.j7 (v67 : Int) (v79 : Bool) : Option (Int ⊕ (Ex Int Unit)) := (if v79 = true then some (.inr (.ret 8)) else rivetref09_May.j8 v67)
noncomputable def rivetref09_May.b66 (a0 : Sapi_Obj) (v67 : Int) : Option (Int ⊕ (Ex Int Unit)) := (if v67 < (a0.Syms.length : Int) then (if 0 ≤ v67 ∧ v67 < (a0.Syms.length : Int) then (nm ((ix eSapi_Sym.d a0.Syms v67).At) fun y75 => (if y75 < 0 then rivetref09_May.j7 v67 true else (if y75 > (w64 (4 * (a0.Words.length : Int))) then rivetref09_May.j7 v67 true else rivetref09_May.j7 v67 ((y75.tmod 4) != 0)))) else none) else some (.inr (.done ())))
noncomputable def rivetref09_May.j9 : Option Int := some 0
noncomputable def rivetref09_May.j6 (a0 : Sapi_Obj) : Option Int := ((loopO (fun (σ : Int) => rivetref09_May.b66 a0 σ) 0).bind fun e => match e with | .ret x => some x | .done e => rivetref09_May.j9)
noncomputable def rivetref09_May.j3 (a0 : Sapi_Obj) : Option Int := ((loopO (fun (σ : Int) => rivetref09_May.b43 a0 σ) 0).bind fun e => match e with | .ret x => some x | .done e => rivetref09_May.j6 a0)
noncomputable def rivetref09_May.j2 (a0 : Sapi_Obj) : Option Int := ((rivetref08_Rise a0.Sites (a0.Words.length : Int)).bind fun t17 => ((if t17 = true then ((loopO (fun (σ : Int) => rivetref09_May.b26 a0 σ) 0).bind fun e => match e with | .ret x => some x | .done e => rivetref09_May.j3 a0) else some 7)))
noncomputable def rivetref09_May.j1 (a0 : Sapi_Obj) (v10 : Bool) : Option Int := (if v10 = true then some 2 else rivetref09_May.j2 a0)
noncomputable def rivetref09_May (a0 : Sapi_Obj) : Option Int := (if (a0.Words.length : Int) > 1024 then rivetref09_May.j1 a0 true else rivetref09_May.j1 a0 (decide ((a0.Syms.length : Int) > 64)))
set_option maxRecDepth 100000 in
set_option maxHeartbeats 4000000 in
theorem rivetref09_May.calls (a0 : Sapi_Obj) (A0_1 : Option Addr) (c0_1 : Nat) (A0_2 : Option Addr) (c0_2 : Nat) (A0_3 : Option Addr) (c0_3 : Nat) (r : Int) (w0 : World) (hr0_1 : Rd w0 (eI .u32) A0_1 c0_1 a0.Words) (hr0_2 : Rd w0 (eI .i64) A0_2 c0_2 a0.Sites) (hr0_3 : Rd w0 eSapi_Sym A0_3 c0_3 a0.Syms) (H : rivetref09_May a0 = some r) :
    Calls Tryd.prog 16 #[.agg #[.slice A0_1 a0.Words.length c0_1, .slice A0_2 a0.Sites.length c0_2, .slice A0_3 a0.Syms.length c0_3]] w0 fun e w' => e = .returned (.int .i64 r) ∧ St [] w0 w' [] := by
 have hw : St [] w0 w0 [] := St.nil w0
 unfold rivetref09_May at H
 refine go_fn Tryd.func16 rfl Tryd.ntmps16 ?_; intro a hs
 refine go_sk fun K1 hK1 => ?_
 obtain ⟨g2, wd3, hx4, hw⟩ := x_boxc (P := Tryd.prog) (elem := 26) (v := (Operand.tmp 0)) (ty := 0) (cs := [.slice A0_1 a0.Words.length c0_1, .slice A0_2 a0.Sites.length c0_2, .slice A0_3 a0.Syms.length c0_3]) hs hw (by kernel_rfl)
 refine go_run hs (by rfl) hx4 [0] ?_; clear hs; intro a hs
 refine go_pvs 2 [] [] hs ?_; clear hs; intro a hs
 refine go_end (hK1 _ _ ?_)
 refine go_sk fun K6 hK6 => ?_
 refine go_pvs 1 [] [(8, .pointer (some (((⟨g2, 0, none⟩ : Addr) : Addr).add 0)))] hs ?_; clear hs; intro a hs
 refine go_run hs (by rfl) (x_bld (g := g2) (o := 0) (p := ((⟨g2, 0, none⟩ : Addr) : Addr).add 0) (v := .slice A0_1 a0.Words.length c0_1) (hw.up 0)) [8] ?_; clear hs; intro a hs
 refine go_pvs 4 [9] [(3, .int .i64 (a0.Words.length : Int))] hs ?_; clear hs; intro a hs
 refine go_end (hK6 _ _ ?_)
 refine go_seq_k fun K7 hK7 => ?_
 have hJ2 : ∀ (a : Act) (w : World), Slots a 105 [(1, .pointer (some (⟨g2, 0, none⟩ : Addr))), (3, .int .i64 (a0.Words.length : Int))] → St [] w0 w [box g2 26 [.slice A0_1 a0.Words.length c0_1, .slice A0_2 a0.Sites.length c0_2, .slice A0_3 a0.Syms.length c0_3]] → rivetref09_May.j2 a0 = some r → K7 a w := by
  intro a w hs hw H
  unfold rivetref09_May.j2 at H
  refine hK7 _ _ ?_
  refine go_seq_k fun K14 hK14 => ?_
  refine go_sk fun K15 hK15 => ?_
  refine go_pvs 1 [] [(19, .pointer (some (((⟨g2, 0, none⟩ : Addr) : Addr).add 1)))] hs ?_; clear hs; intro a hs
  refine go_run hs (by rfl) (x_bld (g := g2) (o := 1) (p := ((⟨g2, 0, none⟩ : Addr) : Addr).add 1) (v := .slice A0_2 a0.Sites.length c0_2) (hw.up 0)) [19] ?_; clear hs; intro a hs
  refine go_pvs 3 [] [(21, .int .i64 (a0.Words.length : Int))] hs ?_; clear hs; intro a hs
  obtain ⟨t17, hx18, H⟩ := bind_some H
  refine go_call hs (by rfl) (rivetref08_Rise.calls A0_2 c0_2 a0.Sites (a0.Words.length : Int) t17 _ (hr0_2.old hw) hx18) ?_
  rintro e wd19 ⟨rfl, hw20⟩
  refine ⟨_, rfl, ?_⟩
  replace hw := hw.call hw20
  clear hs; intro a hs; replace hs := hs.rms [20, 21]
  refine go_pvs 5 [22] [(23, .bool (!t17))] hs ?_; clear hs; intro a hs
  refine go_end (hK15 _ _ ?_)
  refine go_cond hs (!t17) (fun hc => ?_) fun hc => ?_
  ·replace H := ite_f H (ff (nt hc))
   have hb21 := hc
   rw [hb21] at hs
   refine go_sp [1, 3, 23] [(2, .int .i64 7)] hs ?_; clear hs; intro a hs
   refine wp_ret ?_
   refine th_ret ?_
   obtain rfl := Option.some.inj H
   refine ret1 (t := 2) (v := .int .i64 7) hs (by kernel_rfl) (by kernel_rfl) ?_
   exact ⟨rfl, hw.only 0⟩
  ·replace H := ite_t H (nf hc)
   have hb23 := hc
   rw [hb23] at hs
   refine wp_skip ?_
   refine hK14 _ _ ?_
   refine go_seq_k fun K24 hK24 => ?_
   refine go_sp [23] [(4, .int .i64 0)] hs ?_; clear hs; intro a hs
   refine wp_block ?_
   obtain ⟨e26, hl26, HX26⟩ := bind_some H
   have hJ3 : ∀ (a : Act) (w : World), Slots a 105 [(1, .pointer (some (⟨g2, 0, none⟩ : Addr))), (3, .int .i64 (a0.Words.length : Int))] → St [] w0 w [box g2 26 [.slice A0_1 a0.Words.length c0_1, .slice A0_2 a0.Sites.length c0_2, .slice A0_3 a0.Syms.length c0_3]] → rivetref09_May.j3 a0 = some r → K24 a w := by
    intro a w hs hw H
    unfold rivetref09_May.j3 at H
    refine hK24 _ _ ?_
    refine go_seq_k fun K41 hK41 => ?_
    refine go_sp [] [(5, .int .i64 0)] hs ?_; clear hs; intro a hs
    refine wp_block ?_
    obtain ⟨e43, hl43, HX43⟩ := bind_some H
    have hJ6 : ∀ (a : Act) (w : World), Slots a 105 [(1, .pointer (some (⟨g2, 0, none⟩ : Addr))), (3, .int .i64 (a0.Words.length : Int))] → St [] w0 w [box g2 26 [.slice A0_1 a0.Words.length c0_1, .slice A0_2 a0.Sites.length c0_2, .slice A0_3 a0.Syms.length c0_3]] → rivetref09_May.j6 a0 = some r → K41 a w := by
     intro a w hs hw H
     unfold rivetref09_May.j6 at H
     refine hK41 _ _ ?_
     refine go_seq_k fun K64 hK64 => ?_
     refine go_sp [] [(6, .int .i64 0)] hs ?_; clear hs; intro a hs
     refine wp_block ?_
     obtain ⟨e66, hl66, HX66⟩ := bind_some H
     have hJ9 : ∀ (a : Act) (w : World), Slots a 105 [] → St [] w0 w [box g2 26 [.slice A0_1 a0.Words.length c0_1, .slice A0_2 a0.Sites.length c0_2, .slice A0_3 a0.Syms.length c0_3]] → rivetref09_May.j9 = some r → K64 a w := by
      intro a w hs hw H
      unfold rivetref09_May.j9 at H
      refine hK64 _ _ ?_
      refine go_sp [] [(2, .int .i64 0)] hs ?_; clear hs; intro a hs
      refine wp_ret ?_
      obtain rfl := Option.some.inj H
      refine ret1 (t := 2) (v := .int .i64 0) hs (by kernel_rfl) (by kernel_rfl) ?_
      exact ⟨rfl, hw.only 0⟩
     clear H
     refine go_loop (σ := Int) (fun σ a w => Slots a 105 [(1, .pointer (some (⟨g2, 0, none⟩ : Addr))), (3, .int .i64 (a0.Words.length : Int)), (6, .int .i64 σ)] ∧ St [] w0 w [box g2 26 [.slice A0_1 a0.Words.length c0_1, .slice A0_2 a0.Sites.length c0_2, .slice A0_3 a0.Syms.length c0_3]]) hl66 (by exact ⟨hs.kx, hw⟩) ?_
     rintro v67 a w ⟨hs, hw⟩ o H hr66
     replace hs : Slots a 105 [(1, .pointer (some (⟨g2, 0, none⟩ : Addr))), (3, .int .i64 (a0.Words.length : Int)), (6, .int .i64 v67)] := hs
     replace hw : St [] w0 w [box g2 26 [.slice A0_1 a0.Words.length c0_1, .slice A0_2 a0.Sites.length c0_2, .slice A0_3 a0.Syms.length c0_3]] := hw
     replace H : rivetref09_May.b66 a0 v67 = some o := H
     unfold rivetref09_May.b66 at H
     refine go_seq_k fun K68 hK68 => ?_
     refine go_sk fun K69 hK69 => ?_
     refine go_pvs 2 [] [(79, .int .i64 v67), (80, .pointer (some (((⟨g2, 0, none⟩ : Addr) : Addr).add 2)))] hs ?_; clear hs; intro a hs
     refine go_run hs (by rfl) (x_bld (g := g2) (o := 2) (p := ((⟨g2, 0, none⟩ : Addr) : Addr).add 2) (v := .slice A0_3 a0.Syms.length c0_3) (hw.up 0)) [80] ?_; clear hs; intro a hs
     refine go_pvs 5 [79, 81] [(83, .bool (decide (v67 < (a0.Syms.length : Int))))] hs ?_; clear hs; intro a hs
     refine go_end (hK69 _ _ ?_)
     refine go_cond hs (decide (v67 < (a0.Syms.length : Int))) (fun hc => ?_) fun hc => ?_
     ·replace H := ite_t H (of_decide_eq_true hc)
      have hb70 := hc
      rw [hb70] at hs
      refine wp_skip ?_
      refine hK68 _ _ ?_
      refine go_seq_k fun K71 hK71 => ?_
      have hJ8 : ∀ (a : Act) (w : World), Slots a 105 [(1, .pointer (some (⟨g2, 0, none⟩ : Addr))), (3, .int .i64 (a0.Words.length : Int)), (6, .int .i64 v67)] → St [] w0 w [box g2 26 [.slice A0_1 a0.Words.length c0_1, .slice A0_2 a0.Sites.length c0_2, .slice A0_3 a0.Syms.length c0_3]] → rivetref09_May.j8 v67 = some o → K71 a w := by
       intro a w hs hw H
       unfold rivetref09_May.j8 at H
       refine hK71 _ _ ?_
       refine go_plain [] [(6, .int .i64 (w64 (v67 + 1)))] hs ?_; clear hs; intro a hs
       exact round_end (w64 (v67 + 1)) (Option.some.inj H).symm ⟨hs.kx, hw⟩
      refine wp_block ?_
      refine go_sk fun K72 hK72 => ?_
      refine go_pvs 1 [83] [(86, .pointer (some (((⟨g2, 0, none⟩ : Addr) : Addr).add 2)))] hs ?_; clear hs; intro a hs
      refine go_run hs (by rfl) (x_bld (g := g2) (o := 2) (p := ((⟨g2, 0, none⟩ : Addr) : Addr).add 2) (v := .slice A0_3 a0.Syms.length c0_3) (hw.up 0)) [86] ?_; clear hs; intro a hs
      refine go_pvs 3 [] [(88, .int .i64 v67)] hs ?_; clear hs; intro a hs
      obtain ⟨hp73, H⟩ := ite_only H
      obtain ⟨ad74, rfl⟩ := (hr0_3.old hw).some hp73.1 hp73.2
      refine go_run hs (by rfl) (x_idx (T := 39) (sz := 2) (a := ad74) (n := a0.Syms.length) (cap := c0_3) (k := .i64) (i := v67) hp73) [87, 88] ?_; clear hs; intro a hs
      refine go_pvs 5 [89] [(90, .pointer (some ((ad74.add (v67.toNat * 2) : Addr).add 1)))] hs ?_; clear hs; intro a hs
      refine go_run hs (by rfl) (x_ld (off := 1) (p := (ad74.add (v67.toNat * 2) : Addr).add 1) (v := .int .i64 ((ix eSapi_Sym.d a0.Syms v67).At)) (hr0_3.old hw) hp73 (by simp only [add_add', Nat.add_assoc]; rfl)) [90] ?_; clear hs; intro a hs
      refine go_pvs 7 [91] [(7, .int .i64 ((ix eSapi_Sym.d a0.Syms v67).At))] hs ?_; clear hs; intro a hs
      obtain ⟨y75, hy75, H⟩ := nm_some H
      replace hs : Slots a 105 [(1, .pointer (some (⟨g2, 0, none⟩ : Addr))), (3, .int .i64 (a0.Words.length : Int)), (6, .int .i64 v67), (7, .int .i64 y75)] := by rw [hy75]; exact hs.kx
      refine go_end (hK72 _ _ ?_)
      refine go_seq_k fun K76 hK76 => ?_
      have hJ7 : ∀ (v79 : Bool) (a : Act) (w : World), Slots a 105 [(1, .pointer (some (⟨g2, 0, none⟩ : Addr))), (3, .int .i64 (a0.Words.length : Int)), (6, .int .i64 v67), (104, .bool v79)] → St [] w0 w [box g2 26 [.slice A0_1 a0.Words.length c0_1, .slice A0_2 a0.Sites.length c0_2, .slice (some ad74) a0.Syms.length c0_3]] → rivetref09_May.j7 v67 v79 = some o → K76 a w := by
       intro v79 a w hs hw H
       unfold rivetref09_May.j7 at H
       refine hK76 _ _ ?_
       refine go_cond hs v79 (fun hc => ?_) fun hc => ?_
       ·replace H := ite_t H hc
        have hb80 := hc
        rw [hb80] at hs
        refine go_sp [1, 3, 6, 104] [(2, .int .i64 8)] hs ?_; clear hs; intro a hs
        refine wp_ret ?_
        refine ib_ret ?_
        refine th_ret ?_
        refine th_ret ?_
        refine ib_ret ?_
        refine th_ret ?_
        rw [← hr66 _ (Option.some.inj H).symm] at HX66
        replace H : some 8 = some r := HX66
        obtain rfl := Option.some.inj H
        refine ret1 (t := 2) (v := .int .i64 8) hs (by kernel_rfl) (by kernel_rfl) ?_
        exact ⟨rfl, hw.only 0⟩
       ·replace H := ite_f H (ff hc)
        have hb82 := hc
        rw [hb82] at hs
        refine wp_skip ?_
        refine ib_norm ?_
        exact hJ8 _ _ hs.kx hw H
      refine go_region ?_
      refine go_pvs 3 [] [(94, .bool (decide (y75 < 0)))] hs ?_; clear hs; intro a hs
      cases hb77 : (decide (y75 < 0))
      ·replace H := ite_f H (of_decide_eq_false hb77)
       rw [hb77] at hs
       refine go_pvs 9 [94] [(100, .bool (decide (y75 > (w64 (4 * (a0.Words.length : Int))))))] hs ?_; clear hs; intro a hs
       cases hb78 : (decide (y75 > (w64 (4 * (a0.Words.length : Int)))))
       ·replace H := ite_f H (of_decide_eq_false hb78)
        rw [hb78] at hs
        refine go_pvs 13 [7, 100] [(104, .bool ((y75.tmod 4) != 0))] hs ?_; clear hs; intro a hs
        refine go_end ?_
        exact hJ7 ((y75.tmod 4) != 0) _ _ hs.kx hw H
       ·replace H := ite_t H (of_decide_eq_true hb78)
        rw [hb78] at hs
        refine go_pvs 13 [7, 100] [(104, .bool true)] hs ?_; clear hs; intro a hs
        refine go_end ?_
        exact hJ7 true _ _ hs.kx hw H
      ·replace H := ite_t H (of_decide_eq_true hb77)
       rw [hb77] at hs
       refine go_pvs 13 [7, 94] [(104, .bool true)] hs ?_; clear hs; intro a hs
       refine go_end ?_
       exact hJ7 true _ _ hs.kx hw H
     ·replace H := ite_f H (of_decide_eq_false hc)
      have hb83 := hc
      rw [hb83] at hs
      refine wp_exit ?_
      refine th_exit ?_
      refine th_exit ?_
      refine in_block ?_
      rw [← hr66 _ (Option.some.inj H).symm] at HX66
      exact hJ9 _ _ hs.kx hw HX66
    clear H
    refine go_loop (σ := Int) (fun σ a w => Slots a 105 [(1, .pointer (some (⟨g2, 0, none⟩ : Addr))), (3, .int .i64 (a0.Words.length : Int)), (5, .int .i64 σ)] ∧ St [] w0 w [box g2 26 [.slice A0_1 a0.Words.length c0_1, .slice A0_2 a0.Sites.length c0_2, .slice A0_3 a0.Syms.length c0_3]]) hl43 (by exact ⟨hs.kx, hw⟩) ?_
    rintro v44 a w ⟨hs, hw⟩ o H hr43
    replace hs : Slots a 105 [(1, .pointer (some (⟨g2, 0, none⟩ : Addr))), (3, .int .i64 (a0.Words.length : Int)), (5, .int .i64 v44)] := hs
    replace hw : St [] w0 w [box g2 26 [.slice A0_1 a0.Words.length c0_1, .slice A0_2 a0.Sites.length c0_2, .slice A0_3 a0.Syms.length c0_3]] := hw
    replace H : rivetref09_May.b43 a0 v44 = some o := H
    unfold rivetref09_May.b43 at H
    refine go_seq_k fun K45 hK45 => ?_
    refine go_sk fun K46 hK46 => ?_
    refine go_pvs 2 [] [(44, .int .i64 v44), (45, .pointer (some (((⟨g2, 0, none⟩ : Addr) : Addr).add 2)))] hs ?_; clear hs; intro a hs
    refine go_run hs (by rfl) (x_bld (g := g2) (o := 2) (p := ((⟨g2, 0, none⟩ : Addr) : Addr).add 2) (v := .slice A0_3 a0.Syms.length c0_3) (hw.up 0)) [45] ?_; clear hs; intro a hs
    refine go_pvs 5 [44, 46] [(48, .bool (decide (v44 < (a0.Syms.length : Int))))] hs ?_; clear hs; intro a hs
    refine go_end (hK46 _ _ ?_)
    refine go_cond hs (decide (v44 < (a0.Syms.length : Int))) (fun hc => ?_) fun hc => ?_
    ·replace H := ite_t H (of_decide_eq_true hc)
     have hb47 := hc
     rw [hb47] at hs
     refine wp_skip ?_
     refine hK45 _ _ ?_
     refine go_seq_k fun K48 hK48 => ?_
     have hJ5 : ∀ (a : Act) (w : World), Slots a 105 [(1, .pointer (some (⟨g2, 0, none⟩ : Addr))), (3, .int .i64 (a0.Words.length : Int)), (5, .int .i64 v44)] → St [] w0 w [box g2 26 [.slice A0_1 a0.Words.length c0_1, .slice A0_2 a0.Sites.length c0_2, .slice A0_3 a0.Syms.length c0_3]] → rivetref09_May.j5 v44 = some o → K48 a w := by
      intro a w hs hw H
      unfold rivetref09_May.j5 at H
      refine hK48 _ _ ?_
      refine go_plain [] [(5, .int .i64 (w64 (v44 + 1)))] hs ?_; clear hs; intro a hs
      exact round_end (w64 (v44 + 1)) (Option.some.inj H).symm ⟨hs.kx, hw⟩
     refine wp_block ?_
     refine go_seq_k fun K49 hK49 => ?_
     have hJ4 : ∀ (v59 : Bool) (a : Act) (w : World), Slots a 105 [(1, .pointer (some (⟨g2, 0, none⟩ : Addr))), (3, .int .i64 (a0.Words.length : Int)), (5, .int .i64 v44), (78, .bool v59)] → St [] w0 w [box g2 26 [.slice A0_1 a0.Words.length c0_1, .slice A0_2 a0.Sites.length c0_2, .slice A0_3 a0.Syms.length c0_3]] → rivetref09_May.j4 v44 v59 = some o → K49 a w := by
      intro v59 a w hs hw H
      unfold rivetref09_May.j4 at H
      refine hK49 _ _ ?_
      refine go_cond hs v59 (fun hc => ?_) fun hc => ?_
      ·replace H := ite_t H hc
       have hb60 := hc
       rw [hb60] at hs
       refine go_sp [1, 3, 5, 78] [(2, .int .i64 9)] hs ?_; clear hs; intro a hs
       refine wp_ret ?_
       refine ib_ret ?_
       refine th_ret ?_
       refine th_ret ?_
       refine ib_ret ?_
       refine th_ret ?_
       rw [← hr43 _ (Option.some.inj H).symm] at HX43
       replace H : some 9 = some r := HX43
       obtain rfl := Option.some.inj H
       refine ret1 (t := 2) (v := .int .i64 9) hs (by kernel_rfl) (by kernel_rfl) ?_
       exact ⟨rfl, hw.only 0⟩
      ·replace H := ite_f H (ff hc)
       have hb62 := hc
       rw [hb62] at hs
       refine wp_skip ?_
       refine ib_norm ?_
       exact hJ5 _ _ hs.kx hw H
     refine q2_region (by kernel_rfl) (by kernel_rfl) ?_
     refine q_pvs 1 [48] [(51, .pointer (some (((⟨g2, 0, none⟩ : Addr) : Addr).add 2)))] hs ?_; clear hs; intro a hs
     refine q_run hs (by rfl) (fun wx hbx => (x_bld (g := g2) (o := 2) (p := ((⟨g2, 0, none⟩ : Addr) : Addr).add 2) (v := .slice A0_3 a0.Syms.length c0_3) ((hw.behind hbx).up 0))) [51] ?_; clear hs; intro a hs
     refine q_pvs 3 [] [(53, .int .i64 v44)] hs ?_; clear hs; intro a hs
     obtain ⟨hp50, H⟩ := ite_only H
     obtain ⟨ad51, rfl⟩ := (hr0_3.old hw).some hp50.1 hp50.2
     refine q_run hs (by rfl) (fun wx hbx => (x_idx (T := 39) (sz := 2) (a := ad51) (n := a0.Syms.length) (cap := c0_3) (k := .i64) (i := v44) hp50)) [52, 53] ?_; clear hs; intro a hs
     refine q_pvs 5 [54] [(55, .pointer (some ((ad51.add (v44.toNat * 2) : Addr).add 0)))] hs ?_; clear hs; intro a hs
     refine q_run hs (by rfl) (fun wx hbx => (x_ld (off := 0) (p := (ad51.add (v44.toNat * 2) : Addr).add 0) (v := .string ((ix eSapi_Sym.d a0.Syms v44).Name)) ((hr0_3.old hw).below hbx) hp50 (by simp only [add_add', Nat.add_assoc]; rfl))) [55] ?_; clear hs; intro a hs
     obtain ⟨t53, hx54, H⟩ := bind_some H
     refine q_call hs (by rfl) (fun wx hbx => (rivetref07_Name.calls ((ix eSapi_Sym.d a0.Syms v44).Name) t53 _ hx54).mono fun e wy h => ⟨h.1, below_st hbx h.2⟩) [56] ?_; clear hs; intro a hs
     refine q_pvs 9 [57] [(59, .bool (!t53))] hs ?_; clear hs; intro a hs
     cases hb55 : (!t53)
     ·replace H := ite_t H (nf hb55)
      rw [hb55] at hs
      refine q_pvs 12 [] [(62, .bool (decide (v44 > 0)))] hs ?_; clear hs; intro a hs
      cases hb56 : (decide (v44 > 0))
      ·replace H := ite_f H (of_decide_eq_false hb56)
       rw [hb56] at hs
       refine q_pvs 28 [59, 62] [(78, .bool false)] hs ?_; clear hs; intro a hs
       refine q_end ?_
       intro wq hbq
       replace hw := hw.behind hbq
       exact hJ4 false _ _ hs.kx hw H
      ·replace H := ite_t H (of_decide_eq_true hb56)
       rw [hb56] at hs
       refine q_pvs 13 [] [(63, .pointer (some (((⟨g2, 0, none⟩ : Addr) : Addr).add 2)))] hs ?_; clear hs; intro a hs
       refine q_run hs (by rfl) (fun wx hbx => (x_bld (g := g2) (o := 2) (p := ((⟨g2, 0, none⟩ : Addr) : Addr).add 2) (v := .slice (some ad51) a0.Syms.length c0_3) ((hw.behind hbx).up 0))) [63] ?_; clear hs; intro a hs
       refine q_pvs 15 [] [(65, .int .i64 v44)] hs ?_; clear hs; intro a hs
       obtain ⟨hp57, H⟩ := ite_only H
       refine q_run hs (by rfl) (fun wx hbx => (x_idx (T := 39) (sz := 2) (a := ad51) (n := a0.Syms.length) (cap := c0_3) (k := .i64) (i := v44) hp57)) [64, 65] ?_; clear hs; intro a hs
       refine q_pvs 17 [66] [(67, .pointer (some ((ad51.add (v44.toNat * 2) : Addr).add 0)))] hs ?_; clear hs; intro a hs
       refine q_run hs (by rfl) (fun wx hbx => (x_ld (off := 0) (p := (ad51.add (v44.toNat * 2) : Addr).add 0) (v := .string ((ix eSapi_Sym.d a0.Syms v44).Name)) ((hr0_3.old hw).below hbx) hp57 (by simp only [add_add', Nat.add_assoc]; rfl))) [67] ?_; clear hs; intro a hs
       refine q_pvs 19 [] [(69, .pointer (some (((⟨g2, 0, none⟩ : Addr) : Addr).add 2)))] hs ?_; clear hs; intro a hs
       refine q_run hs (by rfl) (fun wx hbx => (x_bld (g := g2) (o := 2) (p := ((⟨g2, 0, none⟩ : Addr) : Addr).add 2) (v := .slice (some ad51) a0.Syms.length c0_3) ((hw.behind hbx).up 0))) [69] ?_; clear hs; intro a hs
       refine q_pvs 22 [] [(72, .int .i64 (w64 (v44 - 1)))] hs ?_; clear hs; intro a hs
       obtain ⟨hp58, H⟩ := ite_only H
       refine q_run hs (by rfl) (fun wx hbx => (x_idx (T := 39) (sz := 2) (a := ad51) (n := a0.Syms.length) (cap := c0_3) (k := .i64) (i := (w64 (v44 - 1))) hp58)) [70, 72] ?_; clear hs; intro a hs
       refine q_pvs 24 [73] [(74, .pointer (some ((ad51.add ((w64 (v44 - 1)).toNat * 2) : Addr).add 0)))] hs ?_; clear hs; intro a hs
       refine q_run hs (by rfl) (fun wx hbx => (x_ld (off := 0) (p := (ad51.add ((w64 (v44 - 1)).toNat * 2) : Addr).add 0) (v := .string ((ix eSapi_Sym.d a0.Syms (w64 (v44 - 1))).Name)) ((hr0_3.old hw).below hbx) hp58 (by simp only [add_add', Nat.add_assoc]; rfl))) [74] ?_; clear hs; intro a hs
       refine q_pvs 28 [59, 62, 68, 75] [(78, .bool (Op.bytesLess ((ix eSapi_Sym.d a0.Syms v44).Name).toList ((ix eSapi_Sym.d a0.Syms (w64 (v44 - 1))).Name).toList || ((ix eSapi_Sym.d a0.Syms v44).Name).toList == ((ix eSapi_Sym.d a0.Syms (w64 (v44 - 1))).Name).toList))] hs ?_; clear hs; intro a hs
       replace hs : Slots a 105 [(1, .pointer (some (⟨g2, 0, none⟩ : Addr))), (3, .int .i64 (a0.Words.length : Int)), (5, .int .i64 v44), (78, .bool (Op.bytesLess ((ix eSapi_Sym.d a0.Syms v44).Name).toList ((ix eSapi_Sym.d a0.Syms (w64 (v44 - 1))).Name).toList || ((ix eSapi_Sym.d a0.Syms v44).Name).toList == ((ix eSapi_Sym.d a0.Syms (w64 (v44 - 1))).Name).toList))] := hs.kx
       refine q_end ?_
       intro wq hbq
       replace hw := hw.behind hbq
       exact hJ4 (Op.bytesLess ((ix eSapi_Sym.d a0.Syms v44).Name).toList ((ix eSapi_Sym.d a0.Syms (w64 (v44 - 1))).Name).toList || ((ix eSapi_Sym.d a0.Syms v44).Name).toList == ((ix eSapi_Sym.d a0.Syms (w64 (v44 - 1))).Name).toList) _ _ hs.kx hw H
     ·replace H := ite_f H (ff (nt hb55))
      rw [hb55] at hs
      refine q_pvs 28 [59] [(78, .bool true)] hs ?_; clear hs; intro a hs
      refine q_end ?_
      intro wq hbq
      replace hw := hw.behind hbq
      exact hJ4 true _ _ hs.kx hw H
    ·replace H := ite_f H (of_decide_eq_false hc)
     have hb63 := hc
     rw [hb63] at hs
     refine wp_exit ?_
     refine th_exit ?_
     refine th_exit ?_
     refine in_block ?_
     rw [← hr43 _ (Option.some.inj H).symm] at HX43
     exact hJ6 _ _ hs.kx hw HX43
   clear H
   refine go_loop (σ := Int) (fun σ a w => Slots a 105 [(1, .pointer (some (⟨g2, 0, none⟩ : Addr))), (3, .int .i64 (a0.Words.length : Int)), (4, .int .i64 σ)] ∧ St [] w0 w [box g2 26 [.slice A0_1 a0.Words.length c0_1, .slice A0_2 a0.Sites.length c0_2, .slice A0_3 a0.Syms.length c0_3]]) hl26 (by exact ⟨hs.kx, hw⟩) ?_
   rintro v27 a w ⟨hs, hw⟩ o H hr26
   replace hs : Slots a 105 [(1, .pointer (some (⟨g2, 0, none⟩ : Addr))), (3, .int .i64 (a0.Words.length : Int)), (4, .int .i64 v27)] := hs
   replace hw : St [] w0 w [box g2 26 [.slice A0_1 a0.Words.length c0_1, .slice A0_2 a0.Sites.length c0_2, .slice A0_3 a0.Syms.length c0_3]] := hw
   replace H : rivetref09_May.b26 a0 v27 = some o := H
   unfold rivetref09_May.b26 at H
   refine go_seq_k fun K28 hK28 => ?_
   refine go_sk fun K29 hK29 => ?_
   refine go_pvs 2 [] [(24, .int .i64 v27), (25, .pointer (some (((⟨g2, 0, none⟩ : Addr) : Addr).add 1)))] hs ?_; clear hs; intro a hs
   refine go_run hs (by rfl) (x_bld (g := g2) (o := 1) (p := ((⟨g2, 0, none⟩ : Addr) : Addr).add 1) (v := .slice A0_2 a0.Sites.length c0_2) (hw.up 0)) [25] ?_; clear hs; intro a hs
   refine go_pvs 5 [24, 26] [(28, .bool (decide (v27 < (a0.Sites.length : Int))))] hs ?_; clear hs; intro a hs
   refine go_end (hK29 _ _ ?_)
   refine go_cond hs (decide (v27 < (a0.Sites.length : Int))) (fun hc => ?_) fun hc => ?_
   ·replace H := ite_t H (of_decide_eq_true hc)
    have hb30 := hc
    rw [hb30] at hs
    refine wp_skip ?_
    refine hK28 _ _ ?_
    refine go_seq_k fun K31 hK31 => ?_
    refine wp_block ?_
    refine go_seq_k fun K32 hK32 => ?_
    refine q2_region (by kernel_rfl) (by kernel_rfl) ?_
    refine q_pvs 1 [28] [(31, .pointer (some (((⟨g2, 0, none⟩ : Addr) : Addr).add 0)))] hs ?_; clear hs; intro a hs
    refine q_run hs (by rfl) (fun wx hbx => (x_bld (g := g2) (o := 0) (p := ((⟨g2, 0, none⟩ : Addr) : Addr).add 0) (v := .slice A0_1 a0.Words.length c0_1) ((hw.behind hbx).up 0))) [31] ?_; clear hs; intro a hs
    refine q_pvs 3 [] [(33, .pointer (some (((⟨g2, 0, none⟩ : Addr) : Addr).add 1)))] hs ?_; clear hs; intro a hs
    refine q_run hs (by rfl) (fun wx hbx => (x_bld (g := g2) (o := 1) (p := ((⟨g2, 0, none⟩ : Addr) : Addr).add 1) (v := .slice A0_2 a0.Sites.length c0_2) ((hw.behind hbx).up 0))) [33] ?_; clear hs; intro a hs
    refine q_pvs 5 [] [(35, .int .i64 v27)] hs ?_; clear hs; intro a hs
    obtain ⟨hp33, H⟩ := ite_only H
    obtain ⟨ad34, rfl⟩ := (hr0_2.old hw).some hp33.1 hp33.2
    refine q_run hs (by rfl) (fun wx hbx => (x_idx (T := 3) (sz := 1) (a := ad34) (n := a0.Sites.length) (cap := c0_2) (k := .i64) (i := v27) hp33)) [34, 35] ?_; clear hs; intro a hs
    refine q_run hs (by rfl) (fun wx hbx => (x_ld (off := 0) (p := ad34.add (v27.toNat * 1)) (v := .int .i64 (ix (eI .i64).d a0.Sites v27)) ((hr0_2.old hw).below hbx) hp33 rfl)) [36] ?_; clear hs; intro a hs
    obtain ⟨hp35, H⟩ := ite_only H
    obtain ⟨ad36, rfl⟩ := (hr0_1.old hw).some hp35.1 hp35.2
    refine q_run hs (by rfl) (fun wx hbx => (x_idx (T := 37) (sz := 1) (a := ad36) (n := a0.Words.length) (cap := c0_1) (k := .i64) (i := (ix (eI .i64).d a0.Sites v27)) hp35)) [32, 37] ?_; clear hs; intro a hs
    refine q_run hs (by rfl) (fun wx hbx => (x_ld (off := 0) (p := ad36.add ((ix (eI .i64).d a0.Sites v27).toNat * 1)) (v := .int .u32 (ix (eI .u32).d a0.Words (ix (eI .i64).d a0.Sites v27))) ((hr0_1.old hw).below hbx) hp35 rfl)) [38] ?_; clear hs; intro a hs
    refine q_pvs 13 [39] [(43, .bool (decide ((w64 (ix (eI .u32).d a0.Words (ix (eI .i64).d a0.Sites v27))) > (w64 (4 * (a0.Words.length : Int))))))] hs ?_; clear hs; intro a hs
    refine q_end ?_
    intro wq hbq
    replace hw := hw.behind hbq
    refine hK32 _ _ ?_
    refine go_cond hs (decide ((w64 (ix (eI .u32).d a0.Words (ix (eI .i64).d a0.Sites v27))) > (w64 (4 * (a0.Words.length : Int))))) (fun hc => ?_) fun hc => ?_
    ·replace H := ite_t H (of_decide_eq_true hc)
     have hb37 := hc
     rw [hb37] at hs
     refine go_sp [1, 3, 4, 43] [(2, .int .i64 8)] hs ?_; clear hs; intro a hs
     refine wp_ret ?_
     refine ib_ret ?_
     refine th_ret ?_
     refine th_ret ?_
     refine ib_ret ?_
     refine th_ret ?_
     rw [← hr26 _ (Option.some.inj H).symm] at HX26
     replace H : some 8 = some r := HX26
     obtain rfl := Option.some.inj H
     refine ret1 (t := 2) (v := .int .i64 8) hs (by kernel_rfl) (by kernel_rfl) ?_
     exact ⟨rfl, hw.only 0⟩
    ·replace H := ite_f H (of_decide_eq_false hc)
     have hb39 := hc
     rw [hb39] at hs
     refine wp_skip ?_
     refine ib_norm ?_
     refine hK31 _ _ ?_
     refine go_plain [43] [(4, .int .i64 (w64 (v27 + 1)))] hs ?_; clear hs; intro a hs
     exact round_end (w64 (v27 + 1)) (Option.some.inj H).symm ⟨hs.kx, hw⟩
   ·replace H := ite_f H (of_decide_eq_false hc)
    have hb40 := hc
    rw [hb40] at hs
    refine wp_exit ?_
    refine th_exit ?_
    refine th_exit ?_
    refine in_block ?_
    rw [← hr26 _ (Option.some.inj H).symm] at HX26
    exact hJ3 _ _ hs.kx hw HX26
 refine go_seq_k fun K8 hK8 => ?_
 have hJ1 : ∀ (v10 : Bool) (a : Act) (w : World), Slots a 105 [(1, .pointer (some (⟨g2, 0, none⟩ : Addr))), (3, .int .i64 (a0.Words.length : Int)), (18, .bool v10)] → St [] w0 w [box g2 26 [.slice A0_1 a0.Words.length c0_1, .slice A0_2 a0.Sites.length c0_2, .slice A0_3 a0.Syms.length c0_3]] → rivetref09_May.j1 a0 v10 = some r → K8 a w := by
  intro v10 a w hs hw H
  unfold rivetref09_May.j1 at H
  refine hK8 _ _ ?_
  refine go_cond hs v10 (fun hc => ?_) fun hc => ?_
  ·replace H := ite_t H hc
   have hb11 := hc
   rw [hb11] at hs
   refine go_sp [1, 3, 18] [(2, .int .i64 2)] hs ?_; clear hs; intro a hs
   refine wp_ret ?_
   refine th_ret ?_
   obtain rfl := Option.some.inj H
   refine ret1 (t := 2) (v := .int .i64 2) hs (by kernel_rfl) (by kernel_rfl) ?_
   exact ⟨rfl, hw.only 0⟩
  ·replace H := ite_f H (ff hc)
   have hb13 := hc
   rw [hb13] at hs
   refine wp_skip ?_
   exact hJ2 _ _ hs.kx hw H
 refine go_region ?_
 refine go_pvs 3 [] [(13, .bool (decide ((a0.Words.length : Int) > 1024)))] hs ?_; clear hs; intro a hs
 cases hb9 : (decide ((a0.Words.length : Int) > 1024))
 ·replace H := ite_f H (of_decide_eq_false hb9)
  rw [hb9] at hs
  refine go_pvs 4 [] [(14, .pointer (some (((⟨g2, 0, none⟩ : Addr) : Addr).add 2)))] hs ?_; clear hs; intro a hs
  refine go_run hs (by rfl) (x_bld (g := g2) (o := 2) (p := ((⟨g2, 0, none⟩ : Addr) : Addr).add 2) (v := .slice A0_3 a0.Syms.length c0_3) (hw.up 0)) [14] ?_; clear hs; intro a hs
  refine go_pvs 8 [13, 15] [(18, .bool (decide ((a0.Syms.length : Int) > 64)))] hs ?_; clear hs; intro a hs
  refine go_end ?_
  exact hJ1 (decide ((a0.Syms.length : Int) > 64)) _ _ hs.kx hw H
 ·replace H := ite_t H (of_decide_eq_true hb9)
  rw [hb9] at hs
  refine go_pvs 8 [13] [(18, .bool true)] hs ?_; clear hs; intro a hs
  refine go_end ?_
  exact hJ1 true _ _ hs.kx hw H

/-! rivet/object.Same: function 17 -/
noncomputable def object_Same.j1 (v28 : Bool) : Option Bool := some v28
noncomputable def object_Same (a0 : Sapi_Obj) (a1 : Sapi_Obj) : Option Bool := ((slices_Equal_uint32_uint32 a0.Words a1.Words).bind fun t12 => ((if t12 = true then ((slices_Equal_int_int a0.Sites a1.Sites).bind fun t18 => ((if t18 = true then ((api_Sym a0.Syms a1.Syms).bind fun t24 => (object_Same.j1 t24)) else object_Same.j1 false))) else object_Same.j1 false)))
set_option maxRecDepth 100000 in
set_option maxHeartbeats 4000000 in
theorem object_Same.calls (a0 : Sapi_Obj) (A0_1 : Option Addr) (c0_1 : Nat) (A0_2 : Option Addr) (c0_2 : Nat) (A0_3 : Option Addr) (c0_3 : Nat) (a1 : Sapi_Obj) (A1_1 : Option Addr) (c1_1 : Nat) (A1_2 : Option Addr) (c1_2 : Nat) (A1_3 : Option Addr) (c1_3 : Nat) (r : Bool) (w0 : World) (hr0_1 : Rd w0 (eI .u32) A0_1 c0_1 a0.Words) (hr0_2 : Rd w0 (eI .i64) A0_2 c0_2 a0.Sites) (hr0_3 : Rd w0 eSapi_Sym A0_3 c0_3 a0.Syms) (hr1_1 : Rd w0 (eI .u32) A1_1 c1_1 a1.Words) (hr1_2 : Rd w0 (eI .i64) A1_2 c1_2 a1.Sites) (hr1_3 : Rd w0 eSapi_Sym A1_3 c1_3 a1.Syms) (H : object_Same a0 a1 = some r) :
    Calls Tryd.prog 17 #[.agg #[.slice A0_1 a0.Words.length c0_1, .slice A0_2 a0.Sites.length c0_2, .slice A0_3 a0.Syms.length c0_3], .agg #[.slice A1_1 a1.Words.length c1_1, .slice A1_2 a1.Sites.length c1_2, .slice A1_3 a1.Syms.length c1_3]] w0 fun e w' => e = .returned (.bool r) ∧ St [] w0 w' [] := by
 have hw : St [] w0 w0 [] := St.nil w0
 unfold object_Same at H
 refine go_fn Tryd.func17 rfl Tryd.ntmps17 ?_; intro a hs
 refine go_sk fun K1 hK1 => ?_
 obtain ⟨g2, wd3, hx4, hw⟩ := x_boxc (P := Tryd.prog) (elem := 26) (v := (Operand.tmp 0)) (ty := 0) (cs := [.slice A0_1 a0.Words.length c0_1, .slice A0_2 a0.Sites.length c0_2, .slice A0_3 a0.Syms.length c0_3]) hs hw (by kernel_rfl)
 refine go_run hs (by rfl) hx4 [0] ?_; clear hs; intro a hs
 obtain ⟨g6, wd7, hx8, hw⟩ := x_boxc (P := Tryd.prog) (elem := 26) (v := (Operand.tmp 1)) (ty := 0) (cs := [.slice A1_1 a1.Words.length c1_1, .slice A1_2 a1.Sites.length c1_2, .slice A1_3 a1.Syms.length c1_3]) hs hw (by kernel_rfl)
 refine go_run hs (by rfl) hx8 [1] ?_; clear hs; intro a hs
 refine go_pvs 3 [] [] hs ?_; clear hs; intro a hs
 refine go_end (hK1 _ _ ?_)
 refine go_seq_k fun K10 hK10 => ?_
 have hJ1 : ∀ (v28 : Bool) (a : Act) (w : World), Slots a 24 [(4, .bool v28)] → St [] w0 w [box g6 26 [.slice A1_1 a1.Words.length c1_1, .slice A1_2 a1.Sites.length c1_2, .slice A1_3 a1.Syms.length c1_3], box g2 26 [.slice A0_1 a0.Words.length c0_1, .slice A0_2 a0.Sites.length c0_2, .slice A0_3 a0.Syms.length c0_3]] → object_Same.j1 v28 = some r → K10 a w := by
  intro v28 a w hs hw H
  unfold object_Same.j1 at H
  refine hK10 _ _ ?_
  refine wp_ret ?_
  obtain rfl := Option.some.inj H
  refine ret1 (t := 4) (v := .bool v28) hs (by kernel_rfl) (by kernel_rfl) ?_
  exact ⟨rfl, hw.only 0⟩
 refine go_region ?_
 refine go_pvs 1 [] [(5, .pointer (some (((⟨g2, 0, none⟩ : Addr) : Addr).add 0)))] hs ?_; clear hs; intro a hs
 refine go_run hs (by rfl) (x_bld (g := g2) (o := 0) (p := ((⟨g2, 0, none⟩ : Addr) : Addr).add 0) (v := .slice A0_1 a0.Words.length c0_1) (hw.up 1)) [5] ?_; clear hs; intro a hs
 refine go_pvs 3 [] [(7, .pointer (some (((⟨g6, 0, none⟩ : Addr) : Addr).add 0)))] hs ?_; clear hs; intro a hs
 refine go_run hs (by rfl) (x_bld (g := g6) (o := 0) (p := ((⟨g6, 0, none⟩ : Addr) : Addr).add 0) (v := .slice A1_1 a1.Words.length c1_1) (hw.up 0)) [7] ?_; clear hs; intro a hs
 obtain ⟨t12, hx13, H⟩ := bind_some H
 refine go_call hs (by rfl) (slices_Equal_uint32_uint32.calls A0_1 c0_1 a0.Words A1_1 c1_1 a1.Words t12 _ (hr0_1.old hw) (hr1_1.old hw) hx13) ?_
 rintro e wd14 ⟨rfl, hw15⟩
 refine ⟨_, rfl, ?_⟩
 replace hw := hw.call hw15
 clear hs; intro a hs; replace hs := hs.rms [6, 8]
 refine go_pvs 6 [9] [(10, .bool t12)] hs ?_; clear hs; intro a hs
 cases hb16 : t12
 ·replace H := ite_f H (ff hb16)
  rw [hb16] at hs
  refine go_pvs 20 [2, 3, 10] [(4, .bool false)] hs ?_; clear hs; intro a hs
  refine go_end ?_
  replace hw := hw.up 1
  replace hw := hw.up 1
  exact hJ1 false _ _ hs.kx hw H
 ·replace H := ite_t H hb16
  rw [hb16] at hs
  refine go_pvs 7 [] [(11, .pointer (some (((⟨g2, 0, none⟩ : Addr) : Addr).add 1)))] hs ?_; clear hs; intro a hs
  refine go_run hs (by rfl) (x_bld (g := g2) (o := 1) (p := ((⟨g2, 0, none⟩ : Addr) : Addr).add 1) (v := .slice A0_2 a0.Sites.length c0_2) (hw.up 1)) [11] ?_; clear hs; intro a hs
  refine go_pvs 9 [] [(13, .pointer (some (((⟨g6, 0, none⟩ : Addr) : Addr).add 1)))] hs ?_; clear hs; intro a hs
  refine go_run hs (by rfl) (x_bld (g := g6) (o := 1) (p := ((⟨g6, 0, none⟩ : Addr) : Addr).add 1) (v := .slice A1_2 a1.Sites.length c1_2) (hw.up 0)) [13] ?_; clear hs; intro a hs
  obtain ⟨t18, hx19, H⟩ := bind_some H
  refine go_call hs (by rfl) (slices_Equal_int_int.calls A0_2 c0_2 a0.Sites A1_2 c1_2 a1.Sites t18 _ (hr0_2.old hw) (hr1_2.old hw) hx19) ?_
  rintro e wd20 ⟨rfl, hw21⟩
  refine ⟨_, rfl, ?_⟩
  replace hw := hw.call hw21
  clear hs; intro a hs; replace hs := hs.rms [12, 14]
  refine go_pvs 13 [10, 15] [(17, .bool t18)] hs ?_; clear hs; intro a hs
  cases hb22 : t18
  ·replace H := ite_f H (ff hb22)
   rw [hb22] at hs
   refine go_pvs 20 [2, 3, 17] [(4, .bool false)] hs ?_; clear hs; intro a hs
   refine go_end ?_
   replace hw := hw.up 1
   replace hw := hw.up 1
   exact hJ1 false _ _ hs.kx hw H
  ·replace H := ite_t H hb22
   rw [hb22] at hs
   refine go_pvs 14 [2] [(18, .pointer (some (((⟨g2, 0, none⟩ : Addr) : Addr).add 2)))] hs ?_; clear hs; intro a hs
   refine go_run hs (by rfl) (x_bld (g := g2) (o := 2) (p := ((⟨g2, 0, none⟩ : Addr) : Addr).add 2) (v := .slice A0_3 a0.Syms.length c0_3) (hw.up 1)) [18] ?_; clear hs; intro a hs
   refine go_pvs 16 [3] [(20, .pointer (some (((⟨g6, 0, none⟩ : Addr) : Addr).add 2)))] hs ?_; clear hs; intro a hs
   refine go_run hs (by rfl) (x_bld (g := g6) (o := 2) (p := ((⟨g6, 0, none⟩ : Addr) : Addr).add 2) (v := .slice A1_3 a1.Syms.length c1_3) (hw.up 0)) [20] ?_; clear hs; intro a hs
   obtain ⟨t24, hx25, H⟩ := bind_some H
   refine go_call hs (by rfl) (api_Sym.calls A0_3 c0_3 a0.Syms A1_3 c1_3 a1.Syms t24 _ (hr0_3.old hw) (hr1_3.old hw) hx25) ?_
   rintro e wd26 ⟨rfl, hw27⟩
   refine ⟨_, rfl, ?_⟩
   replace hw := hw.call hw27
   clear hs; intro a hs; replace hs := hs.rms [19, 21]
   refine go_pvs 20 [17, 22] [(4, .bool t24)] hs ?_; clear hs; intro a hs
   refine go_end ?_
   replace hw := hw.up 1
   replace hw := hw.up 1
   exact hJ1 t24 _ _ hs.kx hw H

/-! rivet/rivetref09.Same: function 18 -/
noncomputable def rivetref09_Same.b30 (a0 : Sapi_Obj) (a1 : Sapi_Obj) (v31 : Int) : Option (Int ⊕ (Ex Bool Unit)) := (if v31 < (a0.Syms.length : Int) then (if 0 ≤ v31 ∧ v31 < (a0.Syms.length : Int) then (if 0 ≤ v31 ∧ v31 < (a1.Syms.length : Int) then (if (!((((ix eSapi_Sym.d a0.Syms v31).Name).toList == ((ix eSapi_Sym.d a1.Syms v31).Name).toList) && ((((ix eSapi_Sym.d a0.Syms v31).At) == ((ix eSapi_Sym.d a1.Syms v31).At)) && true))) = true then some (.inr (.ret false)) else some (.inl (w64 (v31 + 1)))) else none) else none) else some (.inr (.done ())))
noncomputable def rivetref09_Same.j3 : Option Bool := some true
noncomputable def rivetref09_Same.j2 (a0 : Sapi_Obj) (a1 : Sapi_Obj) : Option Bool := ((loopO (fun (σ : Int) => rivetref09_Same.b30 a0 a1 σ) 0).bind fun e => match e with | .ret x => some x | .done e => rivetref09_Same.j3)
noncomputable def rivetref09_Same.j1 (a0 : Sapi_Obj) (a1 : Sapi_Obj) (v24 : Bool) : Option Bool := (if v24 = true then some false else rivetref09_Same.j2 a0 a1)
noncomputable def rivetref09_Same (a0 : Sapi_Obj) (a1 : Sapi_Obj) : Option Bool := ((rivetref05_Same a0.Words a1.Words).bind fun t13 => ((if t13 = true then ((rivetref08_Same a0.Sites a1.Sites).bind fun t19 => ((if t19 = true then rivetref09_Same.j1 a0 a1 ((a0.Syms.length : Int) != (a1.Syms.length : Int)) else rivetref09_Same.j1 a0 a1 true))) else rivetref09_Same.j1 a0 a1 true)))
set_option maxRecDepth 100000 in
set_option maxHeartbeats 4000000 in
theorem rivetref09_Same.calls (a0 : Sapi_Obj) (A0_1 : Option Addr) (c0_1 : Nat) (A0_2 : Option Addr) (c0_2 : Nat) (A0_3 : Option Addr) (c0_3 : Nat) (a1 : Sapi_Obj) (A1_1 : Option Addr) (c1_1 : Nat) (A1_2 : Option Addr) (c1_2 : Nat) (A1_3 : Option Addr) (c1_3 : Nat) (r : Bool) (w0 : World) (hr0_1 : Rd w0 (eI .u32) A0_1 c0_1 a0.Words) (hr0_2 : Rd w0 (eI .i64) A0_2 c0_2 a0.Sites) (hr0_3 : Rd w0 eSapi_Sym A0_3 c0_3 a0.Syms) (hr1_1 : Rd w0 (eI .u32) A1_1 c1_1 a1.Words) (hr1_2 : Rd w0 (eI .i64) A1_2 c1_2 a1.Sites) (hr1_3 : Rd w0 eSapi_Sym A1_3 c1_3 a1.Syms) (H : rivetref09_Same a0 a1 = some r) :
    Calls Tryd.prog 18 #[.agg #[.slice A0_1 a0.Words.length c0_1, .slice A0_2 a0.Sites.length c0_2, .slice A0_3 a0.Syms.length c0_3], .agg #[.slice A1_1 a1.Words.length c1_1, .slice A1_2 a1.Sites.length c1_2, .slice A1_3 a1.Syms.length c1_3]] w0 fun e w' => e = .returned (.bool r) ∧ St [] w0 w' [] := by
 have hw : St [] w0 w0 [] := St.nil w0
 unfold rivetref09_Same at H
 refine go_fn Tryd.func18 rfl Tryd.ntmps18 ?_; intro a hs
 refine go_sk fun K1 hK1 => ?_
 obtain ⟨g2, wd3, hx4, hw⟩ := x_boxc (P := Tryd.prog) (elem := 26) (v := (Operand.tmp 0)) (ty := 0) (cs := [.slice A0_1 a0.Words.length c0_1, .slice A0_2 a0.Sites.length c0_2, .slice A0_3 a0.Syms.length c0_3]) hs hw (by kernel_rfl)
 refine go_run hs (by rfl) hx4 [0] ?_; clear hs; intro a hs
 obtain ⟨g6, wd7, hx8, hw⟩ := x_boxc (P := Tryd.prog) (elem := 26) (v := (Operand.tmp 1)) (ty := 0) (cs := [.slice A1_1 a1.Words.length c1_1, .slice A1_2 a1.Sites.length c1_2, .slice A1_3 a1.Syms.length c1_3]) hs hw (by kernel_rfl)
 refine go_run hs (by rfl) hx8 [1] ?_; clear hs; intro a hs
 refine go_pvs 3 [] [] hs ?_; clear hs; intro a hs
 refine go_end (hK1 _ _ ?_)
 refine go_seq_k fun K10 hK10 => ?_
 have hJ2 : ∀ (a : Act) (w : World), Slots a 47 [(2, .pointer (some (⟨g2, 0, none⟩ : Addr))), (3, .pointer (some (⟨g6, 0, none⟩ : Addr)))] → St [] w0 w [box g6 26 [.slice A1_1 a1.Words.length c1_1, .slice A1_2 a1.Sites.length c1_2, .slice A1_3 a1.Syms.length c1_3], box g2 26 [.slice A0_1 a0.Words.length c0_1, .slice A0_2 a0.Sites.length c0_2, .slice A0_3 a0.Syms.length c0_3]] → rivetref09_Same.j2 a0 a1 = some r → K10 a w := by
  intro a w hs hw H
  unfold rivetref09_Same.j2 at H
  refine hK10 _ _ ?_
  refine go_seq_k fun K28 hK28 => ?_
  refine go_sp [] [(5, .int .i64 0)] hs ?_; clear hs; intro a hs
  refine wp_block ?_
  obtain ⟨e30, hl30, HX30⟩ := bind_some H
  have hJ3 : ∀ (a : Act) (w : World), Slots a 47 [] → St [] w0 w [box g6 26 [.slice A1_1 a1.Words.length c1_1, .slice A1_2 a1.Sites.length c1_2, .slice A1_3 a1.Syms.length c1_3], box g2 26 [.slice A0_1 a0.Words.length c0_1, .slice A0_2 a0.Sites.length c0_2, .slice A0_3 a0.Syms.length c0_3]] → rivetref09_Same.j3 = some r → K28 a w := by
   intro a w hs hw H
   unfold rivetref09_Same.j3 at H
   refine hK28 _ _ ?_
   refine go_sp [] [(4, .bool true)] hs ?_; clear hs; intro a hs
   refine wp_ret ?_
   obtain rfl := Option.some.inj H
   refine ret1 (t := 4) (v := .bool true) hs (by kernel_rfl) (by kernel_rfl) ?_
   exact ⟨rfl, hw.only 0⟩
  clear H
  refine go_loop (σ := Int) (fun σ a w => Slots a 47 [(2, .pointer (some (⟨g2, 0, none⟩ : Addr))), (3, .pointer (some (⟨g6, 0, none⟩ : Addr))), (5, .int .i64 σ)] ∧ St [] w0 w [box g6 26 [.slice A1_1 a1.Words.length c1_1, .slice A1_2 a1.Sites.length c1_2, .slice A1_3 a1.Syms.length c1_3], box g2 26 [.slice A0_1 a0.Words.length c0_1, .slice A0_2 a0.Sites.length c0_2, .slice A0_3 a0.Syms.length c0_3]]) hl30 (by exact ⟨hs.kx, hw⟩) ?_
  rintro v31 a w ⟨hs, hw⟩ o H hr30
  replace hs : Slots a 47 [(2, .pointer (some (⟨g2, 0, none⟩ : Addr))), (3, .pointer (some (⟨g6, 0, none⟩ : Addr))), (5, .int .i64 v31)] := hs
  replace hw : St [] w0 w [box g6 26 [.slice A1_1 a1.Words.length c1_1, .slice A1_2 a1.Sites.length c1_2, .slice A1_3 a1.Syms.length c1_3], box g2 26 [.slice A0_1 a0.Words.length c0_1, .slice A0_2 a0.Sites.length c0_2, .slice A0_3 a0.Syms.length c0_3]] := hw
  replace H : rivetref09_Same.b30 a0 a1 v31 = some o := H
  unfold rivetref09_Same.b30 at H
  refine go_seq_k fun K32 hK32 => ?_
  refine go_sk fun K33 hK33 => ?_
  refine go_pvs 2 [] [(29, .int .i64 v31), (30, .pointer (some (((⟨g2, 0, none⟩ : Addr) : Addr).add 2)))] hs ?_; clear hs; intro a hs
  refine go_run hs (by rfl) (x_bld (g := g2) (o := 2) (p := ((⟨g2, 0, none⟩ : Addr) : Addr).add 2) (v := .slice A0_3 a0.Syms.length c0_3) (hw.up 1)) [30] ?_; clear hs; intro a hs
  refine go_pvs 5 [29, 31] [(33, .bool (decide (v31 < (a0.Syms.length : Int))))] hs ?_; clear hs; intro a hs
  refine go_end (hK33 _ _ ?_)
  refine go_cond hs (decide (v31 < (a0.Syms.length : Int))) (fun hc => ?_) fun hc => ?_
  ·replace H := ite_t H (of_decide_eq_true hc)
   have hb34 := hc
   rw [hb34] at hs
   refine wp_skip ?_
   refine hK32 _ _ ?_
   refine go_seq_k fun K35 hK35 => ?_
   refine wp_block ?_
   refine go_seq_k fun K36 hK36 => ?_
   refine q2_region (by kernel_rfl) (by kernel_rfl) ?_
   refine q_pvs 1 [33] [(36, .pointer (some (((⟨g2, 0, none⟩ : Addr) : Addr).add 2)))] hs ?_; clear hs; intro a hs
   refine q_run hs (by rfl) (fun wx hbx => (x_bld (g := g2) (o := 2) (p := ((⟨g2, 0, none⟩ : Addr) : Addr).add 2) (v := .slice A0_3 a0.Syms.length c0_3) ((hw.behind hbx).up 1))) [36] ?_; clear hs; intro a hs
   refine q_pvs 3 [] [(38, .int .i64 v31)] hs ?_; clear hs; intro a hs
   obtain ⟨hp37, H⟩ := ite_only H
   obtain ⟨ad38, rfl⟩ := (hr0_3.old hw).some hp37.1 hp37.2
   refine q_run hs (by rfl) (fun wx hbx => (x_idx (T := 39) (sz := 2) (a := ad38) (n := a0.Syms.length) (cap := c0_3) (k := .i64) (i := v31) hp37)) [37, 38] ?_; clear hs; intro a hs
   refine q_run hs (by rfl) (fun wx hbx => (x_lds (off := 0) (p := ad38.add (v31.toNat * 2)) (cs := [.string ((ix eSapi_Sym.d a0.Syms v31).Name), .int .i64 ((ix eSapi_Sym.d a0.Syms v31).At)]) ((hr0_3.old hw).below hbx) hp37 rfl)) [39] ?_; clear hs; intro a hs
   refine q_pvs 6 [] [(41, .pointer (some (((⟨g6, 0, none⟩ : Addr) : Addr).add 2)))] hs ?_; clear hs; intro a hs
   refine q_run hs (by rfl) (fun wx hbx => (x_bld (g := g6) (o := 2) (p := ((⟨g6, 0, none⟩ : Addr) : Addr).add 2) (v := .slice A1_3 a1.Syms.length c1_3) ((hw.behind hbx).up 0))) [41] ?_; clear hs; intro a hs
   refine q_pvs 8 [] [(43, .int .i64 v31)] hs ?_; clear hs; intro a hs
   obtain ⟨hp39, H⟩ := ite_only H
   obtain ⟨ad40, rfl⟩ := (hr1_3.old hw).some hp39.1 hp39.2
   refine q_run hs (by rfl) (fun wx hbx => (x_idx (T := 39) (sz := 2) (a := ad40) (n := a1.Syms.length) (cap := c1_3) (k := .i64) (i := v31) hp39)) [42, 43] ?_; clear hs; intro a hs
   refine q_run hs (by rfl) (fun wx hbx => (x_lds (off := 0) (p := ad40.add (v31.toNat * 2)) (cs := [.string ((ix eSapi_Sym.d a1.Syms v31).Name), .int .i64 ((ix eSapi_Sym.d a1.Syms v31).At)]) ((hr1_3.old hw).below hbx) hp39 rfl)) [44] ?_; clear hs; intro a hs
   refine q_run hs (by rfl) (fun wx hbx => (x_neq (xs := #[.string ((ix eSapi_Sym.d a0.Syms v31).Name), .int .i64 ((ix eSapi_Sym.d a0.Syms v31).At)]) (ys := #[.string ((ix eSapi_Sym.d a1.Syms v31).Name), .int .i64 ((ix eSapi_Sym.d a1.Syms v31).At)]) (r := ((((ix eSapi_Sym.d a0.Syms v31).Name).toList == ((ix eSapi_Sym.d a1.Syms v31).Name).toList) && ((((ix eSapi_Sym.d a0.Syms v31).At) == ((ix eSapi_Sym.d a1.Syms v31).At)) && true))) (by kernel_rfl) (by kernel_rfl) (by kernel_rfl) (eq_struct Tryd.underlying39 (by kernel_rfl) (eq_cons (a := .string ((ix eSapi_Sym.d a0.Syms v31).Name)) (b := .string ((ix eSapi_Sym.d a1.Syms v31).Name)) (r := (((ix eSapi_Sym.d a0.Syms v31).Name).toList == ((ix eSapi_Sym.d a1.Syms v31).Name).toList)) (s := ((((ix eSapi_Sym.d a0.Syms v31).At) == ((ix eSapi_Sym.d a1.Syms v31).At)) && true)) (by kernel_rfl) (part_pv (by kernel_rfl)) (part_pv (by kernel_rfl)) (run_equalIn_string _ _ _ _ _ (by kernel_rfl)) (eq_cons (a := .int .i64 ((ix eSapi_Sym.d a0.Syms v31).At)) (b := .int .i64 ((ix eSapi_Sym.d a1.Syms v31).At)) (r := (((ix eSapi_Sym.d a0.Syms v31).At) == ((ix eSapi_Sym.d a1.Syms v31).At))) (s := true) (by kernel_rfl) (part_pv (by kernel_rfl)) (part_pv (by kernel_rfl)) (eq_pv (by kernel_rfl)) eq_nil))))) [40, 45] ?_; clear hs; intro a hs
   refine q_end ?_
   intro wq hbq
   replace hw := hw.behind hbq
   refine hK36 _ _ ?_
   refine go_cond hs (!((((ix eSapi_Sym.d a0.Syms v31).Name).toList == ((ix eSapi_Sym.d a1.Syms v31).Name).toList) && ((((ix eSapi_Sym.d a0.Syms v31).At) == ((ix eSapi_Sym.d a1.Syms v31).At)) && true))) (fun hc => ?_) fun hc => ?_
   ·replace H := ite_t H hc
    have hb41 := hc
    rw [hb41] at hs
    refine go_sp [2, 3, 5, 46] [(4, .bool false)] hs ?_; clear hs; intro a hs
    refine wp_ret ?_
    refine ib_ret ?_
    refine th_ret ?_
    refine th_ret ?_
    refine ib_ret ?_
    refine th_ret ?_
    rw [← hr30 _ (Option.some.inj H).symm] at HX30
    replace H : some false = some r := HX30
    obtain rfl := Option.some.inj H
    refine ret1 (t := 4) (v := .bool false) hs (by kernel_rfl) (by kernel_rfl) ?_
    exact ⟨rfl, hw.only 0⟩
   ·replace H := ite_f H (ff hc)
    have hb43 := hc
    rw [hb43] at hs
    refine wp_skip ?_
    refine ib_norm ?_
    refine hK35 _ _ ?_
    refine go_plain [46] [(5, .int .i64 (w64 (v31 + 1)))] hs ?_; clear hs; intro a hs
    replace hw := hw.up 1
    replace hw := hw.up 1
    exact round_end (w64 (v31 + 1)) (Option.some.inj H).symm ⟨hs.kx, hw⟩
  ·replace H := ite_f H (of_decide_eq_false hc)
   have hb44 := hc
   rw [hb44] at hs
   refine wp_exit ?_
   refine th_exit ?_
   refine th_exit ?_
   refine in_block ?_
   replace hw := hw.up 1
   replace hw := hw.up 1
   rw [← hr30 _ (Option.some.inj H).symm] at HX30
   exact hJ3 _ _ hs.kx hw HX30
 refine go_seq_k fun K11 hK11 => ?_
 have hJ1 : ∀ (v24 : Bool) (a : Act) (w : World), Slots a 47 [(2, .pointer (some (⟨g2, 0, none⟩ : Addr))), (3, .pointer (some (⟨g6, 0, none⟩ : Addr))), (28, .bool v24)] → St [] w0 w [box g6 26 [.slice A1_1 a1.Words.length c1_1, .slice A1_2 a1.Sites.length c1_2, .slice A1_3 a1.Syms.length c1_3], box g2 26 [.slice A0_1 a0.Words.length c0_1, .slice A0_2 a0.Sites.length c0_2, .slice A0_3 a0.Syms.length c0_3]] → rivetref09_Same.j1 a0 a1 v24 = some r → K11 a w := by
  intro v24 a w hs hw H
  unfold rivetref09_Same.j1 at H
  refine hK11 _ _ ?_
  refine go_cond hs v24 (fun hc => ?_) fun hc => ?_
  ·replace H := ite_t H hc
   have hb25 := hc
   rw [hb25] at hs
   refine go_sp [2, 3, 28] [(4, .bool false)] hs ?_; clear hs; intro a hs
   refine wp_ret ?_
   refine th_ret ?_
   obtain rfl := Option.some.inj H
   refine ret1 (t := 4) (v := .bool false) hs (by kernel_rfl) (by kernel_rfl) ?_
   exact ⟨rfl, hw.only 0⟩
  ·replace H := ite_f H (ff hc)
   have hb27 := hc
   rw [hb27] at hs
   refine wp_skip ?_
   replace hw := hw.up 1
   replace hw := hw.up 1
   exact hJ2 _ _ hs.kx hw H
 refine go_region ?_
 refine go_pvs 1 [] [(6, .pointer (some (((⟨g2, 0, none⟩ : Addr) : Addr).add 0)))] hs ?_; clear hs; intro a hs
 refine go_run hs (by rfl) (x_bld (g := g2) (o := 0) (p := ((⟨g2, 0, none⟩ : Addr) : Addr).add 0) (v := .slice A0_1 a0.Words.length c0_1) (hw.up 1)) [6] ?_; clear hs; intro a hs
 refine go_pvs 3 [] [(8, .pointer (some (((⟨g6, 0, none⟩ : Addr) : Addr).add 0)))] hs ?_; clear hs; intro a hs
 refine go_run hs (by rfl) (x_bld (g := g6) (o := 0) (p := ((⟨g6, 0, none⟩ : Addr) : Addr).add 0) (v := .slice A1_1 a1.Words.length c1_1) (hw.up 0)) [8] ?_; clear hs; intro a hs
 obtain ⟨t13, hx14, H⟩ := bind_some H
 refine go_call hs (by rfl) (rivetref05_Same.calls A0_1 c0_1 a0.Words A1_1 c1_1 a1.Words t13 _ (hr0_1.old hw) (hr1_1.old hw) hx14) ?_
 rintro e wd15 ⟨rfl, hw16⟩
 refine ⟨_, rfl, ?_⟩
 replace hw := hw.call hw16
 clear hs; intro a hs; replace hs := hs.rms [7, 9]
 refine go_pvs 7 [10] [(12, .bool (!t13))] hs ?_; clear hs; intro a hs
 cases hb17 : (!t13)
 ·replace H := ite_t H (nf hb17)
  rw [hb17] at hs
  refine go_pvs 8 [] [(13, .pointer (some (((⟨g2, 0, none⟩ : Addr) : Addr).add 1)))] hs ?_; clear hs; intro a hs
  refine go_run hs (by rfl) (x_bld (g := g2) (o := 1) (p := ((⟨g2, 0, none⟩ : Addr) : Addr).add 1) (v := .slice A0_2 a0.Sites.length c0_2) (hw.up 1)) [13] ?_; clear hs; intro a hs
  refine go_pvs 10 [] [(15, .pointer (some (((⟨g6, 0, none⟩ : Addr) : Addr).add 1)))] hs ?_; clear hs; intro a hs
  refine go_run hs (by rfl) (x_bld (g := g6) (o := 1) (p := ((⟨g6, 0, none⟩ : Addr) : Addr).add 1) (v := .slice A1_2 a1.Sites.length c1_2) (hw.up 0)) [15] ?_; clear hs; intro a hs
  obtain ⟨t19, hx20, H⟩ := bind_some H
  refine go_call hs (by rfl) (rivetref08_Same.calls A0_2 c0_2 a0.Sites A1_2 c1_2 a1.Sites t19 _ (hr0_2.old hw) (hr1_2.old hw) hx20) ?_
  rintro e wd21 ⟨rfl, hw22⟩
  refine ⟨_, rfl, ?_⟩
  replace hw := hw.call hw22
  clear hs; intro a hs; replace hs := hs.rms [14, 16]
  refine go_pvs 15 [12, 17] [(20, .bool (!t19))] hs ?_; clear hs; intro a hs
  cases hb23 : (!t19)
  ·replace H := ite_t H (nf hb23)
   rw [hb23] at hs
   refine go_pvs 16 [] [(21, .pointer (some (((⟨g2, 0, none⟩ : Addr) : Addr).add 2)))] hs ?_; clear hs; intro a hs
   refine go_run hs (by rfl) (x_bld (g := g2) (o := 2) (p := ((⟨g2, 0, none⟩ : Addr) : Addr).add 2) (v := .slice A0_3 a0.Syms.length c0_3) (hw.up 1)) [21] ?_; clear hs; intro a hs
   refine go_pvs 19 [22] [(23, .int .i64 (a0.Syms.length : Int)), (24, .pointer (some (((⟨g6, 0, none⟩ : Addr) : Addr).add 2)))] hs ?_; clear hs; intro a hs
   refine go_run hs (by rfl) (x_bld (g := g6) (o := 2) (p := ((⟨g6, 0, none⟩ : Addr) : Addr).add 2) (v := .slice A1_3 a1.Syms.length c1_3) (hw.up 0)) [24] ?_; clear hs; intro a hs
   refine go_pvs 23 [20, 23, 25] [(28, .bool ((a0.Syms.length : Int) != (a1.Syms.length : Int)))] hs ?_; clear hs; intro a hs
   refine go_end ?_
   replace hw := hw.up 1
   replace hw := hw.up 1
   exact hJ1 ((a0.Syms.length : Int) != (a1.Syms.length : Int)) _ _ hs.kx hw H
  ·replace H := ite_f H (ff (nt hb23))
   rw [hb23] at hs
   refine go_pvs 23 [20] [(28, .bool true)] hs ?_; clear hs; intro a hs
   refine go_end ?_
   replace hw := hw.up 1
   replace hw := hw.up 1
   exact hJ1 true _ _ hs.kx hw H
 ·replace H := ite_f H (ff (nt hb17))
  rw [hb17] at hs
  refine go_pvs 23 [12] [(28, .bool true)] hs ?_; clear hs; intro a hs
  refine go_end ?_
  replace hw := hw.up 1
  replace hw := hw.up 1
  exact hJ1 true _ _ hs.kx hw H

/-! rivet/rivetref09.Fit: function 19 -/
noncomputable def rivetref09_Fit.j5 (v96 : Int) : Option (Int ⊕ Int) := some (.inl (w64 (v96 + 1)))
noncomputable def rivetref09_Fit.j4 (v96 : Int) (v102 : Bool) : Option (Int ⊕ Int) := (if v102 = true then rivetref09_Fit.j5 v96 else some (.inr v96))
noncomputable def rivetref09_Fit.b95 (l74 : List Sapi_Sym) (t89 : ByteArray) (v96 : Int) : Option (Int ⊕ Int) := (if v96 < (l74.length : Int) then (if 0 ≤ v96 ∧ v96 < (l74.length : Int) then rivetref09_Fit.j4 v96 (Op.bytesLess ((ix eSapi_Sym.d l74 v96).Name).toList t89.toList) else none) else rivetref09_Fit.j4 v96 false)
noncomputable def rivetref09_Fit.j9 (v77 : Int) (l162 : List Sapi_Sym) : Option ((List Sapi_Sym) × Int ⊕ (List Sapi_Sym)) := some (.inl (l162, w64 (v77 + 1)))
noncomputable def rivetref09_Fit.j8 (v77 : Int) (l2 : List ByteArray) (y39 : Int) (v105 : Int) (l74 : List Sapi_Sym) (t89 : ByteArray) : Option ((List Sapi_Sym) × Int ⊕ (List Sapi_Sym)) := (if 0 ≤ v77 ∧ v77 < (l2.length : Int) then (if (w64 (y39 + 1)) ≠ 0 then (if 0 ≤ v105 ∧ v105 ≤ (l74.length : Int) then (if ([(⟨t89, w64 (4 * ((w64 (((ix eS.d l2 v77).size : Int) + v77)).tmod (w64 (y39 + 1))))⟩ : Sapi_Sym)] : List Sapi_Sym).length + (l74.drop (v105 : Int).toNat).length ≤ 5864062014805 then (if 0 ≤ v105 ∧ v105 ≤ (l74.length : Int) then (if ([] : List Sapi_Sym).length + (l74.take (v105 : Int).toNat).length ≤ 5864062014805 then (if (([] : List Sapi_Sym) ++ (l74.take (v105 : Int).toNat)).length + (([(⟨t89, w64 (4 * ((w64 (((ix eS.d l2 v77).size : Int) + v77)).tmod (w64 (y39 + 1))))⟩ : Sapi_Sym)] : List Sapi_Sym) ++ (l74.drop (v105 : Int).toNat)).length ≤ 5864062014805 then rivetref09_Fit.j9 v77 ((([] : List Sapi_Sym) ++ (l74.take (v105 : Int).toNat)) ++ (([(⟨t89, w64 (4 * ((w64 (((ix eS.d l2 v77).size : Int) + v77)).tmod (w64 (y39 + 1))))⟩ : Sapi_Sym)] : List Sapi_Sym) ++ (l74.drop (v105 : Int).toNat))) else none) else none) else none) else none) else none) else none) else none)
noncomputable def rivetref09_Fit.j7 (v77 : Int) (l74 : List Sapi_Sym) (l2 : List ByteArray) (y39 : Int) (v105 : Int) (t89 : ByteArray) (v111 : Bool) : Option ((List Sapi_Sym) × Int ⊕ (List Sapi_Sym)) := (if v111 = true then rivetref09_Fit.j9 v77 l74 else rivetref09_Fit.j8 v77 l2 y39 v105 l74 t89)
noncomputable def rivetref09_Fit.j6 (l74 : List Sapi_Sym) (v77 : Int) (l2 : List ByteArray) (y39 : Int) (t89 : ByteArray) (v105 : Int) : Option ((List Sapi_Sym) × Int ⊕ (List Sapi_Sym)) := (if v105 < (l74.length : Int) then (if 0 ≤ v105 ∧ v105 < (l74.length : Int) then rivetref09_Fit.j7 v77 l74 l2 y39 v105 t89 (((ix eSapi_Sym.d l74 v105).Name).toList == t89.toList) else none) else rivetref09_Fit.j7 v77 l74 l2 y39 v105 t89 false)
noncomputable def rivetref09_Fit.j3 (v77 : Int) (l2 : List ByteArray) (l74 : List Sapi_Sym) (y39 : Int) : Option ((List Sapi_Sym) × Int ⊕ (List Sapi_Sym)) := (if 0 ≤ v77 ∧ v77 < (l2.length : Int) then ((rivetref07_Fit (ix eS.d l2 v77)).bind fun t89 => (((loopO (fun (σ : Int) => rivetref09_Fit.b95 l74 t89 σ) 0).bind fun e => rivetref09_Fit.j6 l74 v77 l2 y39 t89 e))) else none)
noncomputable def rivetref09_Fit.j2 (v77 : Int) (l2 : List ByteArray) (l74 : List Sapi_Sym) (y39 : Int) (v81 : Bool) : Option ((List Sapi_Sym) × Int ⊕ (List Sapi_Sym)) := (if v81 = true then rivetref09_Fit.j3 v77 l2 l74 y39 else some (.inr l74))
noncomputable def rivetref09_Fit.j10 (l70 : List Int) (t42 : List Int) (l163 : List Sapi_Sym) : Option Sapi_Obj := some (⟨l70, t42, l163⟩ : Sapi_Obj)
noncomputable def rivetref09_Fit.b73 (l2 : List ByteArray) (y39 : Int) (l74 : List Sapi_Sym) (v77 : Int) : Option ((List Sapi_Sym) × Int ⊕ (List Sapi_Sym)) := (if v77 < (l2.length : Int) then rivetref09_Fit.j2 v77 l2 l74 y39 (decide (v77 < 8)) else rivetref09_Fit.j2 v77 l2 l74 y39 false)
noncomputable def rivetref09_Fit.j1 (l2 : List ByteArray) (y39 : Int) (t42 : List Int) (l70 : List Int) : Option Sapi_Obj := ((loopO (fun (σ : (List Sapi_Sym) × Int) => rivetref09_Fit.b73 l2 y39 σ.1 σ.2) (([] : List Sapi_Sym), 0)).bind fun e => rivetref09_Fit.j10 l70 t42 e)
noncomputable def rivetref09_Fit.b53 (t42 : List Int) (y39 : Int) (l54 : List Int) (v55 : Int) : Option ((List Int) × Int ⊕ (List Int)) := (if v55 < (t42.length : Int) then (if 0 ≤ v55 ∧ v55 < (t42.length : Int) then (if 0 ≤ v55 ∧ v55 < (t42.length : Int) then (if 0 ≤ (ix (eI .i64).d t42 v55) ∧ (ix (eI .i64).d t42 v55) < (l54.length : Int) then (if (wu32 (w64 ((w64 (4 * y39)) + 1))) ≠ 0 then (if 0 ≤ (ix (eI .i64).d t42 v55) ∧ (ix (eI .i64).d t42 v55) < (l54.length : Int) then some (.inl (l54.set ((ix (eI .i64).d t42 v55) : Int).toNat ((ix (eI .u32).d l54 (ix (eI .i64).d t42 v55)).tmod (wu32 (w64 ((w64 (4 * y39)) + 1)))), w64 (v55 + 1))) else none) else none) else none) else none) else none) else some (.inr l54))
noncomputable def rivetref09_Fit (l0 : List Int) (l1 : List Int) (l2 : List ByteArray) : Option Sapi_Obj := (if 0 ≤ (mnn (l0.length : Int) 40) ∧ (mnn (l0.length : Int) 40) ≤ (l0.length : Int) then (if ([] : List Int).length + (l0.take (mnn (l0.length : Int) 40 : Int).toNat).length ≤ 35184372088832 then (nm ((([] : List Int) ++ (l0.take (mnn (l0.length : Int) 40 : Int).toNat)).length : Int) fun y39 => ((rivetref08_Fit l1 y39).bind fun t42 => (((loopO (fun (σ : (List Int) × Int) => rivetref09_Fit.b53 t42 y39 σ.1 σ.2) (([] : List Int) ++ (l0.take (mnn (l0.length : Int) 40 : Int).toNat), 0)).bind fun e => rivetref09_Fit.j1 l2 y39 t42 e)))) else none) else none)
set_option maxRecDepth 100000 in
set_option maxHeartbeats 4000000 in
theorem rivetref09_Fit.calls (A0 : Option Addr) (c0 : Nat) (l0 : List Int) (A1 : Option Addr) (c1 : Nat) (l1 : List Int) (A2 : Option Addr) (c2 : Nat) (l2 : List ByteArray) (r : Sapi_Obj) (w0 : World) (hr0 : Rd w0 (eI .u32) A0 c0 l0) (hr1 : Rd w0 (eI .u8) A1 c1 l1) (hr2 : Rd w0 eS A2 c2 l2) (H : rivetref09_Fit l0 l1 l2 = some r) :
    Calls Tryd.prog 19 #[.slice A0 l0.length c0, .slice A1 l1.length c1, .slice A2 l2.length c2] w0 fun e w' => ∃ A_0_1 c_0_1, ∃ A_0_2 c_0_2, ∃ A_0_3 c_0_3, e = .returned (.agg #[.slice A_0_1 r.Words.length c_0_1, .slice A_0_2 r.Sites.length c_0_2, .slice A_0_3 r.Syms.length c_0_3]) ∧ St [] w0 w' [own 37 (eI .u32) A_0_1 c_0_1 r.Words, own 3 (eI .i64) A_0_2 c_0_2 r.Sites, own 39 eSapi_Sym A_0_3 c_0_3 r.Syms] := by
 have hw : St [] w0 w0 [] := St.nil w0
 unfold rivetref09_Fit at H
 refine go_fn Tryd.func19 rfl Tryd.ntmps19 ?_; intro a hs
 refine go_sk fun K1 hK1 => ?_
 obtain ⟨g2, wd3, hx4, hw⟩ := x_allocc (P := Tryd.prog) (elem := 26) (ty := 0) (z := .agg #[.slice none 0 0, .slice none 0 0, .slice none 0 0]) (cs := [.slice none 0 0, .slice none 0 0, .slice none 0 0]) hs hw (by kernel_rfl) (by kernel_rfl)
 refine go_run hs (by rfl) hx4 [] ?_; clear hs; intro a hs
 replace hw := St.own_nil hw 37 (eI .u32)
 replace hw := St.own_nil hw 3 (eI .i64)
 replace hw := St.own_nil hw 39 eSapi_Sym
 replace hw : St [] w0 wd3 [own 39 eSapi_Sym none 0 ([] : List Sapi_Sym), own 3 (eI .i64) none 0 ([] : List Int), own 37 (eI .u32) none 0 ([] : List Int), box g2 26 [.slice none ([] : List Int).length 0, .slice none ([] : List Int).length 0, .slice none ([] : List Sapi_Sym).length 0]] := hw
 refine go_end (hK1 _ _ ?_)
 refine go_sk fun K9 hK9 => ?_
 obtain ⟨Aa10, cc11, wd12, hx13, hw⟩ := n_lit0 (P := Tryd.prog) (t := 22) (ty := 22) (T := 37) hs hw (eI .u32) (by kernel_rfl) (by kernel_rfl)
 refine go_run hs (by rfl) hx13 [] ?_; clear hs; intro a hs
 refine go_pvs 5 [0] [(15, .slice A0 l0.length c0), (18, .int .i64 (mnn (l0.length : Int) 40))] hs ?_; clear hs; intro a hs
 obtain ⟨hp15, H⟩ := ite_only H
 obtain ⟨Aa16, cc17, hx18, hc19⟩ := c_hi (P := Tryd.prog) (ty := 22) (E := (eI .u32)) (T := 37) (t := 22) (x := (Operand.tmp 15)) (y := (Operand.tmp 18)) (k := .i64) hs (by kernel_rfl) (by kernel_rfl) (hr0.old hw) (by kernel_rfl) (by kernel_rfl) hp15.1 hp15.2
 refine go_run hs (by rfl) hx18 [15, 18] ?_; clear hs; intro a hs
 obtain ⟨hp21, H⟩ := ite_only H
 have hsrc26 : Src Tryd.prog (eI .u32).sz 22 (.slice Aa16 (l0.take (mnn (l0.length : Int) 40 : Int).toNat).length cc17) (l0.take (mnn (l0.length : Int) 40 : Int).toNat).length ((l0.take (mnn (l0.length : Int) 40 : Int).toNat).flatMap (eI .u32).enc) _ := (Src.of_rd (E := (eI .u32)) (e' := 37) (by kernel_rfl) (hc19 _ (hr0.old hw)))
 obtain ⟨Aa22, cc23, wd24, hx25, hw⟩ := x_append (P := Tryd.prog) (t := 22) (tx := 22) (ty := 22) (x := (Operand.tmp 14)) (y := (Operand.tmp 19)) (z := .int .u32 0) (bytes := 4) (l2 := l0.take (mnn (l0.length : Int) 40 : Int).toNat) hs hw (by kernel_rfl) (by kernel_rfl) (by kernel_rfl) (by kernel_rfl) (by kernel_rfl) hsrc26 (by omega) (by omega)
 refine go_run hs (by rfl) hx25 [14, 19] ?_; clear hs; intro a hs
 refine go_pvs 8 [20] [(21, .agg #[.slice Aa22 (([] : List Int) ++ (l0.take (mnn (l0.length : Int) 40 : Int).toNat)).length cc23, .slice none 0 0, .slice none 0 0])] hs ?_; clear hs; intro a hs
 obtain ⟨g27, wd28, hx29, hw⟩ := x_allocc (P := Tryd.prog) (elem := 26) (ty := 0) (z := .agg #[.slice none 0 0, .slice none 0 0, .slice none 0 0]) (cs := [.slice none 0 0, .slice none 0 0, .slice none 0 0]) hs hw (by kernel_rfl) (by kernel_rfl)
 refine go_run hs (by rfl) hx29 [] ?_; clear hs; intro a hs
 replace hw := St.own_nil hw 37 (eI .u32)
 replace hw := St.own_nil hw 3 (eI .i64)
 replace hw := St.own_nil hw 39 eSapi_Sym
 replace hw : St [] w0 wd28 [own 39 eSapi_Sym none 0 ([] : List Sapi_Sym), own 3 (eI .i64) none 0 ([] : List Int), own 37 (eI .u32) none 0 ([] : List Int), box g27 26 [.slice none ([] : List Int).length 0, .slice none ([] : List Int).length 0, .slice none ([] : List Sapi_Sym).length 0], own 37 (eI .u32) Aa22 cc23 (([] : List Int) ++ (l0.take (mnn (l0.length : Int) 40 : Int).toNat)), own 39 eSapi_Sym none 0 ([] : List Sapi_Sym), own 3 (eI .i64) none 0 ([] : List Int), own 37 (eI .u32) none 0 ([] : List Int), box g2 26 [.slice none ([] : List Int).length 0, .slice none ([] : List Int).length 0, .slice none ([] : List Sapi_Sym).length 0]] := hw
 replace hw := hw.up 3
 obtain ⟨wd34, hx35, hw⟩ := x_bput (P := Tryd.prog) (ty := 0) (t := 26) (y := (Operand.tmp 7)) (z := (Operand.tmp 21)) (o := 0) (p := (⟨g27, 0, none⟩ : Addr)) (v := .agg #[.slice Aa22 (([] : List Int) ++ (l0.take (mnn (l0.length : Int) 40 : Int).toNat)).length cc23, .slice none 0 0, .slice none 0 0]) (vs := [.slice Aa22 (([] : List Int) ++ (l0.take (mnn (l0.length : Int) 40 : Int).toNat)).length cc23, .slice none 0 0, .slice none 0 0]) (cs' := [.slice Aa22 (([] : List Int) ++ (l0.take (mnn (l0.length : Int) 40 : Int).toNat)).length cc23, .slice none 0 0, .slice none 0 0]) hs hw (by kernel_rfl) rfl (by kernel_rfl) rfl (by kernel_rfl) (by kernel_rfl) (by simp [Value.oneCell']) rfl
 refine go_unit hs (by rfl) hx35 [21] ?_; clear hs; intro a hs
 replace hw := St.own_nil hw 3 (eI .i64)
 replace hw := St.own_nil hw 39 eSapi_Sym
 replace hw : St [] w0 wd34 [own 39 eSapi_Sym none 0 ([] : List Sapi_Sym), own 3 (eI .i64) none 0 ([] : List Int), box g27 26 [.slice Aa22 (([] : List Int) ++ (l0.take (mnn (l0.length : Int) 40 : Int).toNat)).length cc23, .slice none ([] : List Int).length 0, .slice none ([] : List Sapi_Sym).length 0], own 39 eSapi_Sym none 0 ([] : List Sapi_Sym), own 3 (eI .i64) none 0 ([] : List Int), own 37 (eI .u32) none 0 ([] : List Int), own 37 (eI .u32) Aa22 cc23 (([] : List Int) ++ (l0.take (mnn (l0.length : Int) 40 : Int).toNat)), own 39 eSapi_Sym none 0 ([] : List Sapi_Sym), own 3 (eI .i64) none 0 ([] : List Int), own 37 (eI .u32) none 0 ([] : List Int), box g2 26 [.slice none ([] : List Int).length 0, .slice none ([] : List Int).length 0, .slice none ([] : List Sapi_Sym).length 0]] := hw
 refine go_end (hK9 _ _ ?_)
 refine go_sk fun K38 hK38 => ?_
 refine go_pvs 1 [] [(22, .pointer (some (((⟨g27, 0, none⟩ : Addr) : Addr).add 0)))] hs ?_; clear hs; intro a hs
 refine go_run hs (by rfl) (x_bld (g := g27) (o := 0) (p := ((⟨g27, 0, none⟩ : Addr) : Addr).add 0) (v := .slice Aa22 (([] : List Int) ++ (l0.take (mnn (l0.length : Int) 40 : Int).toNat)).length cc23) (hw.up 2)) [22] ?_; clear hs; intro a hs
 refine go_pvs 4 [23] [(8, .int .i64 ((([] : List Int) ++ (l0.take (mnn (l0.length : Int) 40 : Int).toNat)).length : Int))] hs ?_; clear hs; intro a hs
 obtain ⟨y39, hy39, H⟩ := nm_some H
 replace hs : Slots a 134 [(1, .slice A1 l1.length c1), (2, .slice A2 l2.length c2), (6, .pointer (some (⟨g2, 0, none⟩ : Addr))), (7, .pointer (some (⟨g27, 0, none⟩ : Addr))), (8, .int .i64 y39)] := by rw [hy39]; exact hs.kx
 refine go_end (hK38 _ _ ?_)
 refine go_sk fun K40 hK40 => ?_
 refine go_pvs 2 [1] [(25, .slice A1 l1.length c1), (26, .int .i64 y39)] hs ?_; clear hs; intro a hs
 obtain ⟨t42, hx43, H⟩ := bind_some H
 refine go_call hs (by rfl) (rivetref08_Fit.calls A1 c1 l1 y39 t42 _ (hr1.old hw) hx43) ?_
 rintro e wd46 ⟨Aa44, cc45, rfl, hw47⟩
 refine ⟨_, rfl, ?_⟩
 replace hw := hw.call hw47
 clear hs; intro a hs; replace hs := hs.rms [25, 26]
 refine go_pvs 4 [] [(28, .pointer (some (((⟨g27, 0, none⟩ : Addr) : Addr).add 1)))] hs ?_; clear hs; intro a hs
 replace hw := hw.up 3
 obtain ⟨wd49, hx50, hw⟩ := x_bput (P := Tryd.prog) (ty := 0) (t := 23) (y := (Operand.tmp 28)) (z := (Operand.tmp 27)) (o := 1) (p := ((⟨g27, 0, none⟩ : Addr) : Addr).add 1) (v := .slice Aa44 t42.length cc45) (vs := [.slice Aa44 t42.length cc45]) (cs' := [.slice Aa22 (([] : List Int) ++ (l0.take (mnn (l0.length : Int) 40 : Int).toNat)).length cc23, .slice Aa44 t42.length cc45, .slice none ([] : List Sapi_Sym).length 0]) hs hw (by kernel_rfl) rfl (by kernel_rfl) rfl (by kernel_rfl) (by kernel_rfl) (by simp [Value.oneCell']) rfl
 refine go_unit hs (by rfl) hx50 [27, 28] ?_; clear hs; intro a hs
 refine go_end (hK40 _ _ ?_)
 refine go_seq_k fun K51 hK51 => ?_
 refine go_sp [] [(9, .int .i64 0)] hs ?_; clear hs; intro a hs
 refine wp_block ?_
 obtain ⟨e53, hl53, HX53⟩ := bind_some H
 have hJ1 : ∀ (l70 : List Int) (a : Act) (w : World), Slots a 134 [(2, .slice A2 l2.length c2), (6, .pointer (some (⟨g2, 0, none⟩ : Addr))), (7, .pointer (some (⟨g27, 0, none⟩ : Addr))), (8, .int .i64 y39)] → St [] w0 w [box g27 26 [.slice Aa22 l70.length cc23, .slice Aa44 t42.length cc45, .slice none ([] : List Sapi_Sym).length 0], own 3 (eI .i64) Aa44 cc45 t42, own 39 eSapi_Sym none 0 ([] : List Sapi_Sym), own 3 (eI .i64) none 0 ([] : List Int), own 39 eSapi_Sym none 0 ([] : List Sapi_Sym), own 3 (eI .i64) none 0 ([] : List Int), own 37 (eI .u32) none 0 ([] : List Int), own 37 (eI .u32) Aa22 cc23 l70, own 39 eSapi_Sym none 0 ([] : List Sapi_Sym), own 3 (eI .i64) none 0 ([] : List Int), own 37 (eI .u32) none 0 ([] : List Int), box g2 26 [.slice none ([] : List Int).length 0, .slice none ([] : List Int).length 0, .slice none ([] : List Sapi_Sym).length 0]] → rivetref09_Fit.j1 l2 y39 t42 l70 = some r → K51 a w := by
  intro l70 a w hs hw H
  unfold rivetref09_Fit.j1 at H
  refine hK51 _ _ ?_
  refine go_seq_k fun K71 hK71 => ?_
  refine go_sp [] [(10, .int .i64 0)] hs ?_; clear hs; intro a hs
  refine wp_block ?_
  obtain ⟨e73, hl73, HX73⟩ := bind_some H
  have hJ10 : ∀ (Aa164 : Option Addr) (cc165 : Nat) (l163 : List Sapi_Sym) (a : Act) (w : World), Slots a 134 [(6, .pointer (some (⟨g2, 0, none⟩ : Addr))), (7, .pointer (some (⟨g27, 0, none⟩ : Addr)))] → St [] w0 w [box g27 26 [.slice Aa22 l70.length cc23, .slice Aa44 t42.length cc45, .slice Aa164 l163.length cc165], own 3 (eI .i64) Aa44 cc45 t42, own 39 eSapi_Sym Aa164 cc165 l163, own 3 (eI .i64) none 0 ([] : List Int), own 39 eSapi_Sym none 0 ([] : List Sapi_Sym), own 3 (eI .i64) none 0 ([] : List Int), own 37 (eI .u32) none 0 ([] : List Int), own 37 (eI .u32) Aa22 cc23 l70, own 39 eSapi_Sym none 0 ([] : List Sapi_Sym), own 3 (eI .i64) none 0 ([] : List Int), own 37 (eI .u32) none 0 ([] : List Int), box g2 26 [.slice none ([] : List Int).length 0, .slice none ([] : List Int).length 0, .slice none ([] : List Sapi_Sym).length 0]] → rivetref09_Fit.j10 l70 t42 l163 = some r → K71 a w := by
   intro Aa164 cc165 l163 a w hs hw H
   unfold rivetref09_Fit.j10 at H
   refine hK71 _ _ ?_
   refine go_sk fun K166 hK166 => ?_
   refine go_run hs (by rfl) (x_blds (g := g27) (o := 0) (p := (⟨g27, 0, none⟩ : Addr)) (vs := [.slice Aa22 l70.length cc23, .slice Aa44 t42.length cc45, .slice Aa164 l163.length cc165]) (hw.up 0)) [7] ?_; clear hs; intro a hs
   replace hw := hw.up 11
   obtain ⟨wd167, hx168, hw⟩ := x_bput (P := Tryd.prog) (ty := 0) (t := 26) (y := (Operand.tmp 6)) (z := (Operand.tmp 133)) (o := 0) (p := (⟨g2, 0, none⟩ : Addr)) (v := .agg #[.slice Aa22 l70.length cc23, .slice Aa44 t42.length cc45, .slice Aa164 l163.length cc165]) (vs := [.slice Aa22 l70.length cc23, .slice Aa44 t42.length cc45, .slice Aa164 l163.length cc165]) (cs' := [.slice Aa22 l70.length cc23, .slice Aa44 t42.length cc45, .slice Aa164 l163.length cc165]) hs hw (by kernel_rfl) rfl (by kernel_rfl) rfl (by kernel_rfl) (by kernel_rfl) (by simp [Value.oneCell']) rfl
   refine go_unit hs (by rfl) hx168 [133] ?_; clear hs; intro a hs
   refine go_end (hK166 _ _ ?_)
   refine wp_ret ?_
   obtain rfl := Option.some.inj H
   replace hw := hw.up 3
   replace hw := hw.up 3
   replace hw := hw.up 8
   replace hs : Slots a 134 [(6, .pointer (some (⟨g2, 0, none⟩ : Addr)))] := hs.kx
   refine ret1g (L := [(6, .pointer (some (⟨g2, 0, none⟩ : Addr)))]) (r1 := .cell 6 26) (v1 := .agg #[.slice Aa22 l70.length cc23, .slice Aa44 t42.length cc45, .slice Aa164 l163.length cc165]) hs (by kernel_rfl) ⟨_, (show lk 6 [(6, .pointer (some (⟨g2, 0, none⟩ : Addr)))] = some (.pointer (some (⟨g2, 0, none⟩ : Addr))) by kernel_rfl), lvb_row (hw.up 3) (by kernel_rfl) (by kernel_rfl) (by kernel_rfl)⟩ ?_
   exact ⟨Aa22, cc23, Aa44, cc45, Aa164, cc165, rfl, hw.only 3⟩
  clear H
  refine go_loop (σ := (List Sapi_Sym) × Int) (fun σ a w => ∃ Aa75, ∃ cc76, Slots a 134 [(2, .slice A2 l2.length c2), (6, .pointer (some (⟨g2, 0, none⟩ : Addr))), (7, .pointer (some (⟨g27, 0, none⟩ : Addr))), (8, .int .i64 y39), (10, .int .i64 σ.2)] ∧ St [] w0 w [box g27 26 [.slice Aa22 l70.length cc23, .slice Aa44 t42.length cc45, .slice Aa75 σ.1.length cc76], own 3 (eI .i64) Aa44 cc45 t42, own 39 eSapi_Sym Aa75 cc76 σ.1, own 3 (eI .i64) none 0 ([] : List Int), own 39 eSapi_Sym none 0 ([] : List Sapi_Sym), own 3 (eI .i64) none 0 ([] : List Int), own 37 (eI .u32) none 0 ([] : List Int), own 37 (eI .u32) Aa22 cc23 l70, own 39 eSapi_Sym none 0 ([] : List Sapi_Sym), own 3 (eI .i64) none 0 ([] : List Int), own 37 (eI .u32) none 0 ([] : List Int), box g2 26 [.slice none ([] : List Int).length 0, .slice none ([] : List Int).length 0, .slice none ([] : List Sapi_Sym).length 0]]) hl73 (by exact ⟨none, 0, hs.kx, hw⟩) ?_
  rintro ⟨l74, v77⟩ a w ⟨Aa75, cc76, hs, hw⟩ o H hr73
  replace hs : Slots a 134 [(2, .slice A2 l2.length c2), (6, .pointer (some (⟨g2, 0, none⟩ : Addr))), (7, .pointer (some (⟨g27, 0, none⟩ : Addr))), (8, .int .i64 y39), (10, .int .i64 v77)] := hs
  replace hw : St [] w0 w [box g27 26 [.slice Aa22 l70.length cc23, .slice Aa44 t42.length cc45, .slice Aa75 l74.length cc76], own 3 (eI .i64) Aa44 cc45 t42, own 39 eSapi_Sym Aa75 cc76 l74, own 3 (eI .i64) none 0 ([] : List Int), own 39 eSapi_Sym none 0 ([] : List Sapi_Sym), own 3 (eI .i64) none 0 ([] : List Int), own 37 (eI .u32) none 0 ([] : List Int), own 37 (eI .u32) Aa22 cc23 l70, own 39 eSapi_Sym none 0 ([] : List Sapi_Sym), own 3 (eI .i64) none 0 ([] : List Int), own 37 (eI .u32) none 0 ([] : List Int), box g2 26 [.slice none ([] : List Int).length 0, .slice none ([] : List Int).length 0, .slice none ([] : List Sapi_Sym).length 0]] := hw
  replace H : rivetref09_Fit.b73 l2 y39 l74 v77 = some o := H
  unfold rivetref09_Fit.b73 at H
  refine go_seq_k fun K78 hK78 => ?_
  have hJ3 : ∀ (a : Act) (w : World), Slots a 134 [(2, .slice A2 l2.length c2), (6, .pointer (some (⟨g2, 0, none⟩ : Addr))), (7, .pointer (some (⟨g27, 0, none⟩ : Addr))), (8, .int .i64 y39), (10, .int .i64 v77)] → St [] w0 w [box g27 26 [.slice Aa22 l70.length cc23, .slice Aa44 t42.length cc45, .slice Aa75 l74.length cc76], own 3 (eI .i64) Aa44 cc45 t42, own 39 eSapi_Sym Aa75 cc76 l74, own 3 (eI .i64) none 0 ([] : List Int), own 39 eSapi_Sym none 0 ([] : List Sapi_Sym), own 3 (eI .i64) none 0 ([] : List Int), own 37 (eI .u32) none 0 ([] : List Int), own 37 (eI .u32) Aa22 cc23 l70, own 39 eSapi_Sym none 0 ([] : List Sapi_Sym), own 3 (eI .i64) none 0 ([] : List Int), own 37 (eI .u32) none 0 ([] : List Int), box g2 26 [.slice none ([] : List Int).length 0, .slice none ([] : List Int).length 0, .slice none ([] : List Sapi_Sym).length 0]] → rivetref09_Fit.j3 v77 l2 l74 y39 = some o → K78 a w := by
   intro a w hs hw H
   unfold rivetref09_Fit.j3 at H
   refine hK78 _ _ ?_
   refine go_seq_k fun K84 hK84 => ?_
   have hJ9 : ∀ (Aa160 : Option Addr) (cc161 : Nat) (l162 : List Sapi_Sym) (a : Act) (w : World), Slots a 134 [(2, .slice A2 l2.length c2), (6, .pointer (some (⟨g2, 0, none⟩ : Addr))), (7, .pointer (some (⟨g27, 0, none⟩ : Addr))), (8, .int .i64 y39), (10, .int .i64 v77)] → St [] w0 w [box g27 26 [.slice Aa22 l70.length cc23, .slice Aa44 t42.length cc45, .slice Aa160 l162.length cc161], own 3 (eI .i64) Aa44 cc45 t42, own 3 (eI .i64) none 0 ([] : List Int), own 39 eSapi_Sym none 0 ([] : List Sapi_Sym), own 3 (eI .i64) none 0 ([] : List Int), own 37 (eI .u32) none 0 ([] : List Int), own 37 (eI .u32) Aa22 cc23 l70, own 39 eSapi_Sym none 0 ([] : List Sapi_Sym), own 3 (eI .i64) none 0 ([] : List Int), own 37 (eI .u32) none 0 ([] : List Int), box g2 26 [.slice none ([] : List Int).length 0, .slice none ([] : List Int).length 0, .slice none ([] : List Sapi_Sym).length 0], own 39 eSapi_Sym Aa160 cc161 l162] → rivetref09_Fit.j9 v77 l162 = some o → K84 a w := by
    intro Aa160 cc161 l162 a w hs hw H
    unfold rivetref09_Fit.j9 at H
    refine hK84 _ _ ?_
    refine go_plain [] [(10, .int .i64 (w64 (v77 + 1)))] hs ?_; clear hs; intro a hs
    replace hw := hw.up 10
    replace hw := hw.up 10
    replace hw := hw.up 10
    replace hw := hw.up 10
    replace hw := hw.up 10
    replace hw := hw.up 10
    replace hw := hw.up 10
    replace hw := hw.up 10
    replace hw := hw.up 10
    replace hw := hw.up 11
    replace hw := hw.up 11
    replace hw := hw.up 11
    exact round_end (l162, w64 (v77 + 1)) (Option.some.inj H).symm ⟨Aa160, cc161, hs.kx, hw⟩
   refine wp_block ?_
   refine go_sk fun K85 hK85 => ?_
   refine go_pvs 2 [] [(68, .slice A2 l2.length c2), (69, .int .i64 v77)] hs ?_; clear hs; intro a hs
   obtain ⟨hp86, H⟩ := ite_only H
   obtain ⟨ad87, rfl⟩ := (hr2.old hw).some hp86.1 hp86.2
   refine go_run hs (by rfl) (x_idx (T := 9) (sz := 1) (a := ad87) (n := l2.length) (cap := c2) (k := .i64) (i := v77) hp86) [68, 69] ?_; clear hs; intro a hs
   refine go_run hs (by rfl) (x_ld (off := 0) (p := ad87.add (v77.toNat * 1)) (v := .string (ix eS.d l2 v77)) (hr2.old hw) hp86 rfl) [70] ?_; clear hs; intro a hs
   obtain ⟨t89, hx90, H⟩ := bind_some H
   refine go_call hs (by rfl) (rivetref07_Fit.calls (ix eS.d l2 v77) t89 _ hx90) ?_
   rintro e wd91 ⟨rfl, hw92⟩
   refine ⟨_, rfl, ?_⟩
   replace hw := hw.call hw92
   clear hs; intro a hs; replace hs := hs.rms [71]
   refine go_pvs 6 [72] [(11, .string t89)] hs ?_; clear hs; intro a hs
   refine go_end (hK85 _ _ ?_)
   refine go_sp [] [(12, .int .i64 0)] hs ?_; clear hs; intro a hs
   refine go_seq_k fun K94 hK94 => ?_
   refine wp_block ?_
   obtain ⟨e95, hl95, HX95⟩ := bind_some H
   have hJ6 : ∀ (v105 : Int) (a : Act) (w : World), Slots a 134 [(2, .slice (some ad87) l2.length c2), (6, .pointer (some (⟨g2, 0, none⟩ : Addr))), (7, .pointer (some (⟨g27, 0, none⟩ : Addr))), (8, .int .i64 y39), (10, .int .i64 v77), (11, .string t89), (12, .int .i64 v105)] → St [] w0 w [box g27 26 [.slice Aa22 l70.length cc23, .slice Aa44 t42.length cc45, .slice Aa75 l74.length cc76], own 3 (eI .i64) Aa44 cc45 t42, own 39 eSapi_Sym Aa75 cc76 l74, own 3 (eI .i64) none 0 ([] : List Int), own 39 eSapi_Sym none 0 ([] : List Sapi_Sym), own 3 (eI .i64) none 0 ([] : List Int), own 37 (eI .u32) none 0 ([] : List Int), own 37 (eI .u32) Aa22 cc23 l70, own 39 eSapi_Sym none 0 ([] : List Sapi_Sym), own 3 (eI .i64) none 0 ([] : List Int), own 37 (eI .u32) none 0 ([] : List Int), box g2 26 [.slice none ([] : List Int).length 0, .slice none ([] : List Int).length 0, .slice none ([] : List Sapi_Sym).length 0]] → rivetref09_Fit.j6 l74 v77 l2 y39 t89 v105 = some o → K94 a w := by
    intro v105 a w hs hw H
    unfold rivetref09_Fit.j6 at H
    refine hK94 _ _ ?_
    refine go_seq_k fun K106 hK106 => ?_
    have hJ8 : ∀ (a : Act) (w : World), Slots a 134 [(2, .slice (some ad87) l2.length c2), (6, .pointer (some (⟨g2, 0, none⟩ : Addr))), (7, .pointer (some (⟨g27, 0, none⟩ : Addr))), (8, .int .i64 y39), (10, .int .i64 v77), (11, .string t89), (12, .int .i64 v105)] → St [] w0 w [box g27 26 [.slice Aa22 l70.length cc23, .slice Aa44 t42.length cc45, .slice Aa75 l74.length cc76], own 3 (eI .i64) Aa44 cc45 t42, own 39 eSapi_Sym Aa75 cc76 l74, own 3 (eI .i64) none 0 ([] : List Int), own 39 eSapi_Sym none 0 ([] : List Sapi_Sym), own 3 (eI .i64) none 0 ([] : List Int), own 37 (eI .u32) none 0 ([] : List Int), own 37 (eI .u32) Aa22 cc23 l70, own 39 eSapi_Sym none 0 ([] : List Sapi_Sym), own 3 (eI .i64) none 0 ([] : List Int), own 37 (eI .u32) none 0 ([] : List Int), box g2 26 [.slice none ([] : List Int).length 0, .slice none ([] : List Int).length 0, .slice none ([] : List Sapi_Sym).length 0]] → rivetref09_Fit.j8 v77 l2 y39 v105 l74 t89 = some o → K106 a w := by
     intro a w hs hw H
     unfold rivetref09_Fit.j8 at H
     refine hK106 _ _ ?_
     refine go_seq_k fun K114 hK114 => ?_
     refine d_region [18] [(true, [0, 1, 2, 3, 4, 5, 6, 7, 8, 9, 10, 11, 12, 14, 15, 16, 17], 13), (true, [], 18)] [19] (by kernel_rfl) (by kernel_rfl) (fun c a d v w h => by cases d <;> exact h) ?_
     refine d_seg ?_
     refine c_pvs [0, 1, 2] [3, 4, 5, 6, 7, 8, 9, 10, 11, 12, 14, 15, 16, 17] [11] [(105, .string t89), (106, .slice (some ad87) l2.length c2), (107, .int .i64 v77)] hs ?_; clear hs; intro a hs
     obtain ⟨hp115, H⟩ := ite_only H
     refine d_run hs (by rfl) (fun wx hbx => (x_idx (T := 9) (sz := 1) (a := ad87) (n := l2.length) (cap := c2) (k := .i64) (i := v77) hp115)) [106, 107] ?_; clear hs; intro a hs
     refine d_run hs (by rfl) (fun wx hbx => (x_ld (off := 0) (p := ad87.add (v77.toNat * 1)) (v := .string (ix eS.d l2 v77)) (Rd.bn (hr2.old hw) hbx) hp115 rfl)) [108] ?_; clear hs; intro a hs
     refine c_pvs [5, 6, 7, 8, 9] [10, 11, 12, 14, 15, 16, 17] [109] [(112, .int .i64 (w64 (((ix eS.d l2 v77).size : Int) + v77))), (114, .int .i64 (w64 (y39 + 1)))] hs ?_; clear hs; intro a hs
     obtain ⟨hp116, H⟩ := ite_only H
     refine d_run hs (by rfl) (fun wx hbx => (x_rem (k := .i64) (m := w64 (((ix eS.d l2 v77).size : Int) + v77)) (n := w64 (y39 + 1)) (by kernel_rfl) (by kernel_rfl) hp116)) [112, 114] ?_; clear hs; intro a hs
     refine c_pvs [11, 12, 14] [15, 16, 17] [105, 115] [(117, .agg #[.string t89, .int .i64 (w64 (4 * ((w64 (((ix eS.d l2 v77).size : Int) + v77)).tmod (w64 (y39 + 1)))))]), (119, .pointer (some (((⟨g27, 0, none⟩ : Addr) : Addr).add 2)))] hs ?_; clear hs; intro a hs
     refine d_run hs (by rfl) (fun wx hbx => (x_bldD (g := g27) (o := 2) (p := ((⟨g27, 0, none⟩ : Addr) : Addr).add 2) (v := .slice Aa75 l74.length cc76) (hw.up 0) hbx)) [119] ?_; clear hs; intro a hs
     refine c_pvs [16] [17] [] [(121, .int .i64 v105)] hs ?_; clear hs; intro a hs
     obtain ⟨hp117, H⟩ := ite_only H
     obtain ⟨Aa118, cc119, hx120, hc121⟩ := w_lo (P := Tryd.prog) (ty := 24) (E := eSapi_Sym) (T := 39) (t := 24) (x := (Operand.tmp 120)) (y := (Operand.tmp 121)) (k := .i64) hs (by kernel_rfl) (by kernel_rfl) (Rd.of_own (hw.up 2)) (by kernel_rfl) (by kernel_rfl) hp117.1 hp117.2
     refine d_run hs (by rfl) (fun wx hbx => (hx120 wx)) [120, 121] ?_; clear hs; intro a hs
     refine c_end ?_
     intro wq hbq
     replace hw := hw.behind hbq
     have hbc := Below.refl wq.heap.size wq
     obtain ⟨Aa123, cc124, wd125, hx126, hwn⟩ := n_lit (P := Tryd.prog) (t := 24) (ty := 24) (T := 39) (len := 1) (parts := #[(0, (Operand.tmp 117))]) (z := .agg #[.string (⟨#[]⟩ : ByteArray), .int .i64 0]) (bytes := 24) (cells := #[.string t89, .int .i64 (w64 (4 * ((w64 (((ix eS.d l2 v77).size : Int) + v77)).tmod (w64 (y39 + 1)))))]) hs (nil_of hw) eSapi_Sym ([(⟨t89, w64 (4 * ((w64 (((ix eS.d l2 v77).size : Int) + v77)).tmod (w64 (y39 + 1))))⟩ : Sapi_Sym)] : List Sapi_Sym) (by kernel_rfl) (by kernel_rfl) (by kernel_rfl) (by kernel_rfl) (by kernel_rfl) (by kernel_rfl) (by kernel_rfl)
     replace hbc := hwn.below
     replace hw := hw.call hwn
     clear hwn
     refine p_run hs (by rfl) hx126 [117] ?_; clear hs; intro a hs
     refine c_done ⟨.inr (bn_of hbq hbc), ?_⟩
     clear hbc hbq
     refine d_seg ?_
     refine c_end ?_
     intro wq hbq
     replace hw := hw.behind hbq
     obtain ⟨hp128, H⟩ := ite_only H
     have hsrc133 : Src Tryd.prog eSapi_Sym.sz 24 (.slice Aa118 (l74.drop (v105 : Int).toNat).length cc119) (l74.drop (v105 : Int).toNat).length ((l74.drop (v105 : Int).toNat).flatMap eSapi_Sym.enc) _ := (Src.of_rd (E := eSapi_Sym) (e' := 39) (by kernel_rfl) (hc121 _ (Rd.of_own (hw.up 3))))
     obtain ⟨Aa129, cc130, wd131, hx132, hw⟩ := x_append (P := Tryd.prog) (t := 24) (tx := 24) (ty := 24) (x := (Operand.tmp 118)) (y := (Operand.tmp 122)) (z := .agg #[.string (⟨#[]⟩ : ByteArray), .int .i64 0]) (bytes := 24) (l2 := l74.drop (v105 : Int).toNat) hs hw (by kernel_rfl) (by kernel_rfl) (by kernel_rfl) (by kernel_rfl) (by kernel_rfl) hsrc133 (by omega) (by omega)
     refine p_run hs (by rfl) hx132 [118, 122] ?_; clear hs; intro a hs
     refine c_done ⟨.inl (by kernel_rfl), ?_⟩
     clear hbq
     refine d_last ?_
     refine c_pvs [19] [] [123] [(13, .slice Aa129 (([(⟨t89, w64 (4 * ((w64 (((ix eS.d l2 v77).size : Int) + v77)).tmod (w64 (y39 + 1))))⟩ : Sapi_Sym)] : List Sapi_Sym) ++ (l74.drop (v105 : Int).toNat)).length cc130)] hs ?_; clear hs; intro a hs
     refine c_end ?_
     intro wq hbq
     replace hw := hw.behind hbq
     refine hK114 _ _ ?_
     refine go_region ?_
     obtain ⟨Aa134, cc135, wd136, hx137, hw⟩ := n_lit0 (P := Tryd.prog) (t := 24) (ty := 24) (T := 39) hs hw eSapi_Sym (by kernel_rfl) (by kernel_rfl)
     refine go_run hs (by rfl) hx137 [] ?_; clear hs; intro a hs
     refine go_pvs 2 [] [(125, .pointer (some (((⟨g27, 0, none⟩ : Addr) : Addr).add 2)))] hs ?_; clear hs; intro a hs
     refine go_run hs (by rfl) (x_bld (g := g27) (o := 2) (p := ((⟨g27, 0, none⟩ : Addr) : Addr).add 2) (v := .slice Aa75 l74.length cc76) (hw.up 2)) [125] ?_; clear hs; intro a hs
     refine go_pvs 4 [12] [(127, .int .i64 v105)] hs ?_; clear hs; intro a hs
     obtain ⟨hp139, H⟩ := ite_only H
     obtain ⟨Aa140, cc141, hx142, hc143⟩ := c_hi (P := Tryd.prog) (ty := 24) (E := eSapi_Sym) (T := 39) (t := 24) (x := (Operand.tmp 126)) (y := (Operand.tmp 127)) (k := .i64) hs (by kernel_rfl) (by kernel_rfl) (Rd.of_own (hw.up 4)) (by kernel_rfl) (by kernel_rfl) hp139.1 hp139.2
     refine go_run hs (by rfl) hx142 [126, 127] ?_; clear hs; intro a hs
     obtain ⟨hp145, H⟩ := ite_only H
     have hsrc150 : Src Tryd.prog eSapi_Sym.sz 24 (.slice Aa140 (l74.take (v105 : Int).toNat).length cc141) (l74.take (v105 : Int).toNat).length ((l74.take (v105 : Int).toNat).flatMap eSapi_Sym.enc) _ := (Src.of_rd (E := eSapi_Sym) (e' := 39) (by kernel_rfl) (hc143 _ (Rd.of_own (hw.up 4))))
     obtain ⟨Aa146, cc147, wd148, hx149, hw⟩ := x_append (P := Tryd.prog) (t := 24) (tx := 24) (ty := 24) (x := (Operand.tmp 124)) (y := (Operand.tmp 128)) (z := .agg #[.string (⟨#[]⟩ : ByteArray), .int .i64 0]) (bytes := 24) (l2 := l74.take (v105 : Int).toNat) hs hw (by kernel_rfl) (by kernel_rfl) (by kernel_rfl) (by kernel_rfl) (by kernel_rfl) hsrc150 (by omega) (by omega)
     refine go_run hs (by rfl) hx149 [124, 128] ?_; clear hs; intro a hs
     refine go_pvs 7 [13] [(130, .slice Aa129 (([(⟨t89, w64 (4 * ((w64 (((ix eS.d l2 v77).size : Int) + v77)).tmod (w64 (y39 + 1))))⟩ : Sapi_Sym)] : List Sapi_Sym) ++ (l74.drop (v105 : Int).toNat)).length cc130)] hs ?_; clear hs; intro a hs
     obtain ⟨hp151, H⟩ := ite_only H
     have hsrc156 : Src Tryd.prog eSapi_Sym.sz 24 (.slice Aa129 (([(⟨t89, w64 (4 * ((w64 (((ix eS.d l2 v77).size : Int) + v77)).tmod (w64 (y39 + 1))))⟩ : Sapi_Sym)] : List Sapi_Sym) ++ (l74.drop (v105 : Int).toNat)).length cc130) (([(⟨t89, w64 (4 * ((w64 (((ix eS.d l2 v77).size : Int) + v77)).tmod (w64 (y39 + 1))))⟩ : Sapi_Sym)] : List Sapi_Sym) ++ (l74.drop (v105 : Int).toNat)).length ((([(⟨t89, w64 (4 * ((w64 (((ix eS.d l2 v77).size : Int) + v77)).tmod (w64 (y39 + 1))))⟩ : Sapi_Sym)] : List Sapi_Sym) ++ (l74.drop (v105 : Int).toNat)).flatMap eSapi_Sym.enc) _ := (Src.of_rd (E := eSapi_Sym) (e' := 39) (by kernel_rfl) (Rd.of_own (hw.up 1)))
     obtain ⟨Aa152, cc153, wd154, hx155, hw⟩ := x_append (P := Tryd.prog) (t := 24) (tx := 24) (ty := 24) (x := (Operand.tmp 129)) (y := (Operand.tmp 130)) (z := .agg #[.string (⟨#[]⟩ : ByteArray), .int .i64 0]) (bytes := 24) (l2 := ([(⟨t89, w64 (4 * ((w64 (((ix eS.d l2 v77).size : Int) + v77)).tmod (w64 (y39 + 1))))⟩ : Sapi_Sym)] : List Sapi_Sym) ++ (l74.drop (v105 : Int).toNat)) hs hw (by kernel_rfl) (by kernel_rfl) (by kernel_rfl) (by kernel_rfl) (by kernel_rfl) hsrc156 (by omega) (by omega)
     refine go_run hs (by rfl) hx155 [129, 130] ?_; clear hs; intro a hs
     refine go_pvs 9 [] [(132, .pointer (some (((⟨g27, 0, none⟩ : Addr) : Addr).add 2)))] hs ?_; clear hs; intro a hs
     replace hw := hw.up 2
     obtain ⟨wd157, hx158, hw⟩ := x_bput (P := Tryd.prog) (ty := 0) (t := 24) (y := (Operand.tmp 132)) (z := (Operand.tmp 131)) (o := 2) (p := ((⟨g27, 0, none⟩ : Addr) : Addr).add 2) (v := .slice Aa152 ((([] : List Sapi_Sym) ++ (l74.take (v105 : Int).toNat)) ++ (([(⟨t89, w64 (4 * ((w64 (((ix eS.d l2 v77).size : Int) + v77)).tmod (w64 (y39 + 1))))⟩ : Sapi_Sym)] : List Sapi_Sym) ++ (l74.drop (v105 : Int).toNat))).length cc153) (vs := [.slice Aa152 ((([] : List Sapi_Sym) ++ (l74.take (v105 : Int).toNat)) ++ (([(⟨t89, w64 (4 * ((w64 (((ix eS.d l2 v77).size : Int) + v77)).tmod (w64 (y39 + 1))))⟩ : Sapi_Sym)] : List Sapi_Sym) ++ (l74.drop (v105 : Int).toNat))).length cc153]) (cs' := [.slice Aa22 l70.length cc23, .slice Aa44 t42.length cc45, .slice Aa152 ((([] : List Sapi_Sym) ++ (l74.take (v105 : Int).toNat)) ++ (([(⟨t89, w64 (4 * ((w64 (((ix eS.d l2 v77).size : Int) + v77)).tmod (w64 (y39 + 1))))⟩ : Sapi_Sym)] : List Sapi_Sym) ++ (l74.drop (v105 : Int).toNat))).length cc153]) hs hw (by kernel_rfl) rfl (by kernel_rfl) rfl (by kernel_rfl) (by kernel_rfl) (by simp [Value.oneCell']) rfl
     refine go_unit hs (by rfl) hx158 [131, 132] ?_; clear hs; intro a hs
     refine go_end ?_
     refine ib_norm ?_
     replace hw := hw.up 1
     replace hw := hw.up 13
     replace hw := hw.up 13
     replace hw := hw.up 13
     replace hw := hw.up 13
     replace hw := hw.up 13
     replace hw := hw.up 13
     replace hw := hw.up 13
     replace hw := hw.up 13
     replace hw := hw.up 13
     replace hw := hw.up 12
     replace hw := hw.up 11
     replace hw := hw.only 12
     exact hJ9 Aa152 cc153 ((([] : List Sapi_Sym) ++ (l74.take (v105 : Int).toNat)) ++ (([(⟨t89, w64 (4 * ((w64 (((ix eS.d l2 v77).size : Int) + v77)).tmod (w64 (y39 + 1))))⟩ : Sapi_Sym)] : List Sapi_Sym) ++ (l74.drop (v105 : Int).toNat))) _ _ hs.kx hw H
    refine go_seq_k fun K107 hK107 => ?_
    have hJ7 : ∀ (v111 : Bool) (a : Act) (w : World), Slots a 134 [(2, .slice (some ad87) l2.length c2), (6, .pointer (some (⟨g2, 0, none⟩ : Addr))), (7, .pointer (some (⟨g27, 0, none⟩ : Addr))), (8, .int .i64 y39), (10, .int .i64 v77), (11, .string t89), (12, .int .i64 v105), (104, .bool v111)] → St [] w0 w [box g27 26 [.slice Aa22 l70.length cc23, .slice Aa44 t42.length cc45, .slice Aa75 l74.length cc76], own 3 (eI .i64) Aa44 cc45 t42, own 39 eSapi_Sym Aa75 cc76 l74, own 3 (eI .i64) none 0 ([] : List Int), own 39 eSapi_Sym none 0 ([] : List Sapi_Sym), own 3 (eI .i64) none 0 ([] : List Int), own 37 (eI .u32) none 0 ([] : List Int), own 37 (eI .u32) Aa22 cc23 l70, own 39 eSapi_Sym none 0 ([] : List Sapi_Sym), own 3 (eI .i64) none 0 ([] : List Int), own 37 (eI .u32) none 0 ([] : List Int), box g2 26 [.slice none ([] : List Int).length 0, .slice none ([] : List Int).length 0, .slice none ([] : List Sapi_Sym).length 0]] → rivetref09_Fit.j7 v77 l74 l2 y39 v105 t89 v111 = some o → K107 a w := by
     intro v111 a w hs hw H
     unfold rivetref09_Fit.j7 at H
     refine hK107 _ _ ?_
     refine go_cond hs v111 (fun hc => ?_) fun hc => ?_
     ·replace H := ite_t H hc
      have hb112 := hc
      rw [hb112] at hs
      refine wp_exit ?_
      refine th_exit ?_
      refine in_block ?_
      replace hw := hw.up 2
      replace hw := hw.up 11
      replace hw := hw.up 11
      replace hw := hw.up 11
      replace hw := hw.up 11
      replace hw := hw.up 11
      replace hw := hw.up 11
      replace hw := hw.up 11
      replace hw := hw.up 11
      replace hw := hw.up 11
      replace hw := hw.up 11
      replace hw := hw.up 11
      exact hJ9 Aa75 cc76 l74 _ _ hs.kx hw H
     ·replace H := ite_f H (ff hc)
      have hb113 := hc
      rw [hb113] at hs
      refine wp_skip ?_
      replace hw := hw.up 11
      replace hw := hw.up 11
      replace hw := hw.up 11
      replace hw := hw.up 11
      replace hw := hw.up 11
      replace hw := hw.up 11
      replace hw := hw.up 11
      replace hw := hw.up 11
      replace hw := hw.up 11
      replace hw := hw.up 11
      replace hw := hw.up 11
      replace hw := hw.up 11
      exact hJ8 _ _ hs.kx hw H
    refine go_region ?_
    refine go_pvs 2 [] [(90, .int .i64 v105), (91, .pointer (some (((⟨g27, 0, none⟩ : Addr) : Addr).add 2)))] hs ?_; clear hs; intro a hs
    refine go_run hs (by rfl) (x_bld (g := g27) (o := 2) (p := ((⟨g27, 0, none⟩ : Addr) : Addr).add 2) (v := .slice Aa75 l74.length cc76) (hw.up 0)) [91] ?_; clear hs; intro a hs
    refine go_pvs 6 [90, 92] [(95, .bool (decide (v105 < (l74.length : Int))))] hs ?_; clear hs; intro a hs
    cases hb108 : (decide (v105 < (l74.length : Int)))
    ·replace H := ite_f H (of_decide_eq_false hb108)
     rw [hb108] at hs
     refine go_pvs 15 [95] [(104, .bool false)] hs ?_; clear hs; intro a hs
     refine go_end ?_
     replace hw := hw.up 11
     replace hw := hw.up 11
     replace hw := hw.up 11
     replace hw := hw.up 11
     replace hw := hw.up 11
     replace hw := hw.up 11
     replace hw := hw.up 11
     replace hw := hw.up 11
     replace hw := hw.up 11
     replace hw := hw.up 11
     replace hw := hw.up 11
     replace hw := hw.up 11
     exact hJ7 false _ _ hs.kx hw H
    ·replace H := ite_t H (of_decide_eq_true hb108)
     rw [hb108] at hs
     refine go_pvs 7 [] [(96, .pointer (some (((⟨g27, 0, none⟩ : Addr) : Addr).add 2)))] hs ?_; clear hs; intro a hs
     refine go_run hs (by rfl) (x_bld (g := g27) (o := 2) (p := ((⟨g27, 0, none⟩ : Addr) : Addr).add 2) (v := .slice Aa75 l74.length cc76) (hw.up 0)) [96] ?_; clear hs; intro a hs
     refine go_pvs 9 [] [(98, .int .i64 v105)] hs ?_; clear hs; intro a hs
     obtain ⟨hp109, H⟩ := ite_only H
     obtain ⟨ad110, rfl⟩ := (Rd.of_own (hw.up 2)).some hp109.1 hp109.2
     refine go_run hs (by rfl) (x_idx (T := 39) (sz := 2) (a := ad110) (n := l74.length) (cap := cc76) (k := .i64) (i := v105) hp109) [97, 98] ?_; clear hs; intro a hs
     refine go_pvs 11 [99] [(100, .pointer (some ((ad110.add (v105.toNat * 2) : Addr).add 0)))] hs ?_; clear hs; intro a hs
     refine go_run hs (by rfl) (x_ld (off := 0) (p := (ad110.add (v105.toNat * 2) : Addr).add 0) (v := .string ((ix eSapi_Sym.d l74 v105).Name)) (Rd.of_own (hw.up 2)) hp109 (by simp only [add_add', Nat.add_assoc]; rfl)) [100] ?_; clear hs; intro a hs
     refine go_pvs 15 [95, 101] [(104, .bool (((ix eSapi_Sym.d l74 v105).Name).toList == t89.toList))] hs ?_; clear hs; intro a hs
     refine go_end ?_
     replace hw := hw.up 11
     replace hw := hw.up 11
     replace hw := hw.up 11
     replace hw := hw.up 11
     replace hw := hw.up 11
     replace hw := hw.up 11
     replace hw := hw.up 11
     replace hw := hw.up 11
     replace hw := hw.up 11
     replace hw := hw.up 11
     replace hw := hw.up 11
     replace hw := hw.up 11
     exact hJ7 (((ix eSapi_Sym.d l74 v105).Name).toList == t89.toList) _ _ hs.kx hw H
   clear H
   refine go_loop (σ := Int) (fun σ a w => Slots a 134 [(2, .slice (some ad87) l2.length c2), (6, .pointer (some (⟨g2, 0, none⟩ : Addr))), (7, .pointer (some (⟨g27, 0, none⟩ : Addr))), (8, .int .i64 y39), (10, .int .i64 v77), (11, .string t89), (12, .int .i64 σ)] ∧ St [] w0 w [box g27 26 [.slice Aa22 l70.length cc23, .slice Aa44 t42.length cc45, .slice Aa75 l74.length cc76], own 3 (eI .i64) Aa44 cc45 t42, own 39 eSapi_Sym Aa75 cc76 l74, own 3 (eI .i64) none 0 ([] : List Int), own 39 eSapi_Sym none 0 ([] : List Sapi_Sym), own 3 (eI .i64) none 0 ([] : List Int), own 37 (eI .u32) none 0 ([] : List Int), own 37 (eI .u32) Aa22 cc23 l70, own 39 eSapi_Sym none 0 ([] : List Sapi_Sym), own 3 (eI .i64) none 0 ([] : List Int), own 37 (eI .u32) none 0 ([] : List Int), box g2 26 [.slice none ([] : List Int).length 0, .slice none ([] : List Int).length 0, .slice none ([] : List Sapi_Sym).length 0]]) hl95 (by exact ⟨hs.kx, hw⟩) ?_
   rintro v96 a w ⟨hs, hw⟩ o H hr95
   replace hs : Slots a 134 [(2, .slice (some ad87) l2.length c2), (6, .pointer (some (⟨g2, 0, none⟩ : Addr))), (7, .pointer (some (⟨g27, 0, none⟩ : Addr))), (8, .int .i64 y39), (10, .int .i64 v77), (11, .string t89), (12, .int .i64 v96)] := hs
   replace hw : St [] w0 w [box g27 26 [.slice Aa22 l70.length cc23, .slice Aa44 t42.length cc45, .slice Aa75 l74.length cc76], own 3 (eI .i64) Aa44 cc45 t42, own 39 eSapi_Sym Aa75 cc76 l74, own 3 (eI .i64) none 0 ([] : List Int), own 39 eSapi_Sym none 0 ([] : List Sapi_Sym), own 3 (eI .i64) none 0 ([] : List Int), own 37 (eI .u32) none 0 ([] : List Int), own 37 (eI .u32) Aa22 cc23 l70, own 39 eSapi_Sym none 0 ([] : List Sapi_Sym), own 3 (eI .i64) none 0 ([] : List Int), own 37 (eI .u32) none 0 ([] : List Int), box g2 26 [.slice none ([] : List Int).length 0, .slice none ([] : List Int).length 0, .slice none ([] : List Sapi_Sym).length 0]] := hw
   replace H : rivetref09_Fit.b95 l74 t89 v96 = some o := H
   unfold rivetref09_Fit.b95 at H
   refine go_seq_k fun K97 hK97 => ?_
   have hJ5 : ∀ (a : Act) (w : World), Slots a 134 [(2, .slice (some ad87) l2.length c2), (6, .pointer (some (⟨g2, 0, none⟩ : Addr))), (7, .pointer (some (⟨g27, 0, none⟩ : Addr))), (8, .int .i64 y39), (10, .int .i64 v77), (11, .string t89), (12, .int .i64 v96)] → St [] w0 w [box g27 26 [.slice Aa22 l70.length cc23, .slice Aa44 t42.length cc45, .slice Aa75 l74.length cc76], own 3 (eI .i64) Aa44 cc45 t42, own 39 eSapi_Sym Aa75 cc76 l74, own 3 (eI .i64) none 0 ([] : List Int), own 39 eSapi_Sym none 0 ([] : List Sapi_Sym), own 3 (eI .i64) none 0 ([] : List Int), own 37 (eI .u32) none 0 ([] : List Int), own 37 (eI .u32) Aa22 cc23 l70, own 39 eSapi_Sym none 0 ([] : List Sapi_Sym), own 3 (eI .i64) none 0 ([] : List Int), own 37 (eI .u32) none 0 ([] : List Int), box g2 26 [.slice none ([] : List Int).length 0, .slice none ([] : List Int).length 0, .slice none ([] : List Sapi_Sym).length 0]] → rivetref09_Fit.j5 v96 = some o → K97 a w := by
    intro a w hs hw H
    unfold rivetref09_Fit.j5 at H
    refine hK97 _ _ ?_
    refine wp_block ?_
    refine go_plain [] [(12, .int .i64 (w64 (v96 + 1)))] hs ?_; clear hs; intro a hs
    refine ib_norm ?_
    replace hw := hw.up 11
    replace hw := hw.up 11
    replace hw := hw.up 11
    replace hw := hw.up 11
    replace hw := hw.up 11
    replace hw := hw.up 11
    replace hw := hw.up 11
    replace hw := hw.up 11
    replace hw := hw.up 11
    replace hw := hw.up 11
    replace hw := hw.up 11
    replace hw := hw.up 11
    exact round_end (w64 (v96 + 1)) (Option.some.inj H).symm ⟨hs.kx, hw⟩
   refine go_seq_k fun K98 hK98 => ?_
   have hJ4 : ∀ (v102 : Bool) (a : Act) (w : World), Slots a 134 [(2, .slice (some ad87) l2.length c2), (6, .pointer (some (⟨g2, 0, none⟩ : Addr))), (7, .pointer (some (⟨g27, 0, none⟩ : Addr))), (8, .int .i64 y39), (10, .int .i64 v77), (11, .string t89), (12, .int .i64 v96), (87, .bool v102)] → St [] w0 w [box g27 26 [.slice Aa22 l70.length cc23, .slice Aa44 t42.length cc45, .slice Aa75 l74.length cc76], own 3 (eI .i64) Aa44 cc45 t42, own 39 eSapi_Sym Aa75 cc76 l74, own 3 (eI .i64) none 0 ([] : List Int), own 39 eSapi_Sym none 0 ([] : List Sapi_Sym), own 3 (eI .i64) none 0 ([] : List Int), own 37 (eI .u32) none 0 ([] : List Int), own 37 (eI .u32) Aa22 cc23 l70, own 39 eSapi_Sym none 0 ([] : List Sapi_Sym), own 3 (eI .i64) none 0 ([] : List Int), own 37 (eI .u32) none 0 ([] : List Int), box g2 26 [.slice none ([] : List Int).length 0, .slice none ([] : List Int).length 0, .slice none ([] : List Sapi_Sym).length 0]] → rivetref09_Fit.j4 v96 v102 = some o → K98 a w := by
    intro v102 a w hs hw H
    unfold rivetref09_Fit.j4 at H
    refine hK98 _ _ ?_
    refine go_cond hs v102 (fun hc => ?_) fun hc => ?_
    ·replace H := ite_t H hc
     have hb103 := hc
     rw [hb103] at hs
     refine wp_skip ?_
     replace hw := hw.up 11
     replace hw := hw.up 11
     replace hw := hw.up 11
     replace hw := hw.up 11
     replace hw := hw.up 11
     replace hw := hw.up 11
     replace hw := hw.up 11
     replace hw := hw.up 11
     replace hw := hw.up 11
     replace hw := hw.up 11
     replace hw := hw.up 11
     replace hw := hw.up 11
     exact hJ5 _ _ hs.kx hw H
    ·replace H := ite_f H (ff hc)
     have hb104 := hc
     rw [hb104] at hs
     refine wp_exit ?_
     refine th_exit ?_
     refine th_exit ?_
     refine in_block ?_
     replace hw := hw.up 11
     replace hw := hw.up 11
     replace hw := hw.up 11
     replace hw := hw.up 11
     replace hw := hw.up 11
     replace hw := hw.up 11
     replace hw := hw.up 11
     replace hw := hw.up 11
     replace hw := hw.up 11
     replace hw := hw.up 11
     replace hw := hw.up 11
     replace hw := hw.up 11
     rw [← hr95 _ (Option.some.inj H).symm] at HX95
     exact hJ6 v96 _ _ hs.kx hw HX95
   refine go_region ?_
   refine go_pvs 2 [] [(73, .int .i64 v96), (74, .pointer (some (((⟨g27, 0, none⟩ : Addr) : Addr).add 2)))] hs ?_; clear hs; intro a hs
   refine go_run hs (by rfl) (x_bld (g := g27) (o := 2) (p := ((⟨g27, 0, none⟩ : Addr) : Addr).add 2) (v := .slice Aa75 l74.length cc76) (hw.up 0)) [74] ?_; clear hs; intro a hs
   refine go_pvs 6 [73, 75] [(78, .bool (decide (v96 < (l74.length : Int))))] hs ?_; clear hs; intro a hs
   cases hb99 : (decide (v96 < (l74.length : Int)))
   ·replace H := ite_f H (of_decide_eq_false hb99)
    rw [hb99] at hs
    refine go_pvs 15 [78] [(87, .bool false)] hs ?_; clear hs; intro a hs
    refine go_end ?_
    replace hw := hw.up 11
    replace hw := hw.up 11
    replace hw := hw.up 11
    replace hw := hw.up 11
    replace hw := hw.up 11
    replace hw := hw.up 11
    replace hw := hw.up 11
    replace hw := hw.up 11
    replace hw := hw.up 11
    replace hw := hw.up 11
    replace hw := hw.up 11
    replace hw := hw.up 11
    exact hJ4 false _ _ hs.kx hw H
   ·replace H := ite_t H (of_decide_eq_true hb99)
    rw [hb99] at hs
    refine go_pvs 7 [] [(79, .pointer (some (((⟨g27, 0, none⟩ : Addr) : Addr).add 2)))] hs ?_; clear hs; intro a hs
    refine go_run hs (by rfl) (x_bld (g := g27) (o := 2) (p := ((⟨g27, 0, none⟩ : Addr) : Addr).add 2) (v := .slice Aa75 l74.length cc76) (hw.up 0)) [79] ?_; clear hs; intro a hs
    refine go_pvs 9 [] [(81, .int .i64 v96)] hs ?_; clear hs; intro a hs
    obtain ⟨hp100, H⟩ := ite_only H
    obtain ⟨ad101, rfl⟩ := (Rd.of_own (hw.up 2)).some hp100.1 hp100.2
    refine go_run hs (by rfl) (x_idx (T := 39) (sz := 2) (a := ad101) (n := l74.length) (cap := cc76) (k := .i64) (i := v96) hp100) [80, 81] ?_; clear hs; intro a hs
    refine go_pvs 11 [82] [(83, .pointer (some ((ad101.add (v96.toNat * 2) : Addr).add 0)))] hs ?_; clear hs; intro a hs
    refine go_run hs (by rfl) (x_ld (off := 0) (p := (ad101.add (v96.toNat * 2) : Addr).add 0) (v := .string ((ix eSapi_Sym.d l74 v96).Name)) (Rd.of_own (hw.up 2)) hp100 (by simp only [add_add', Nat.add_assoc]; rfl)) [83] ?_; clear hs; intro a hs
    refine go_pvs 15 [78, 84] [(87, .bool (Op.bytesLess ((ix eSapi_Sym.d l74 v96).Name).toList t89.toList))] hs ?_; clear hs; intro a hs
    refine go_end ?_
    replace hw := hw.up 11
    replace hw := hw.up 11
    replace hw := hw.up 11
    replace hw := hw.up 11
    replace hw := hw.up 11
    replace hw := hw.up 11
    replace hw := hw.up 11
    replace hw := hw.up 11
    replace hw := hw.up 11
    replace hw := hw.up 11
    replace hw := hw.up 11
    replace hw := hw.up 11
    exact hJ4 (Op.bytesLess ((ix eSapi_Sym.d l74 v96).Name).toList t89.toList) _ _ hs.kx hw H
  refine go_seq_k fun K79 hK79 => ?_
  have hJ2 : ∀ (v81 : Bool) (a : Act) (w : World), Slots a 134 [(2, .slice A2 l2.length c2), (6, .pointer (some (⟨g2, 0, none⟩ : Addr))), (7, .pointer (some (⟨g27, 0, none⟩ : Addr))), (8, .int .i64 y39), (10, .int .i64 v77), (65, .bool v81)] → St [] w0 w [box g27 26 [.slice Aa22 l70.length cc23, .slice Aa44 t42.length cc45, .slice Aa75 l74.length cc76], own 3 (eI .i64) Aa44 cc45 t42, own 39 eSapi_Sym Aa75 cc76 l74, own 3 (eI .i64) none 0 ([] : List Int), own 39 eSapi_Sym none 0 ([] : List Sapi_Sym), own 3 (eI .i64) none 0 ([] : List Int), own 37 (eI .u32) none 0 ([] : List Int), own 37 (eI .u32) Aa22 cc23 l70, own 39 eSapi_Sym none 0 ([] : List Sapi_Sym), own 3 (eI .i64) none 0 ([] : List Int), own 37 (eI .u32) none 0 ([] : List Int), box g2 26 [.slice none ([] : List Int).length 0, .slice none ([] : List Int).length 0, .slice none ([] : List Sapi_Sym).length 0]] → rivetref09_Fit.j2 v77 l2 l74 y39 v81 = some o → K79 a w := by
   intro v81 a w hs hw H
   unfold rivetref09_Fit.j2 at H
   refine hK79 _ _ ?_
   refine go_cond hs v81 (fun hc => ?_) fun hc => ?_
   ·replace H := ite_t H hc
    have hb82 := hc
    rw [hb82] at hs
    refine wp_skip ?_
    replace hw := hw.up 11
    replace hw := hw.up 11
    replace hw := hw.up 11
    replace hw := hw.up 11
    replace hw := hw.up 11
    replace hw := hw.up 11
    replace hw := hw.up 11
    replace hw := hw.up 11
    replace hw := hw.up 11
    replace hw := hw.up 11
    replace hw := hw.up 11
    replace hw := hw.up 11
    exact hJ3 _ _ hs.kx hw H
   ·replace H := ite_f H (ff hc)
    have hb83 := hc
    rw [hb83] at hs
    refine wp_exit ?_
    refine th_exit ?_
    refine th_exit ?_
    refine in_block ?_
    replace hw := hw.up 11
    replace hw := hw.up 11
    replace hw := hw.up 11
    replace hw := hw.up 11
    replace hw := hw.up 11
    replace hw := hw.up 11
    replace hw := hw.up 11
    replace hw := hw.up 11
    replace hw := hw.up 11
    replace hw := hw.up 11
    replace hw := hw.up 11
    replace hw := hw.up 11
    rw [← hr73 _ (Option.some.inj H).symm] at HX73
    exact hJ10 Aa75 cc76 l74 _ _ hs.kx hw HX73
  refine go_region ?_
  refine go_pvs 5 [] [(62, .bool (decide (v77 < (l2.length : Int))))] hs ?_; clear hs; intro a hs
  cases hb80 : (decide (v77 < (l2.length : Int)))
  ·replace H := ite_f H (of_decide_eq_false hb80)
   rw [hb80] at hs
   refine go_pvs 8 [62] [(65, .bool false)] hs ?_; clear hs; intro a hs
   refine go_end ?_
   replace hw := hw.up 11
   replace hw := hw.up 11
   replace hw := hw.up 11
   replace hw := hw.up 11
   replace hw := hw.up 11
   replace hw := hw.up 11
   replace hw := hw.up 11
   replace hw := hw.up 11
   replace hw := hw.up 11
   replace hw := hw.up 11
   replace hw := hw.up 11
   replace hw := hw.up 11
   exact hJ2 false _ _ hs.kx hw H
  ·replace H := ite_t H (of_decide_eq_true hb80)
   rw [hb80] at hs
   refine go_pvs 8 [62] [(65, .bool (decide (v77 < 8)))] hs ?_; clear hs; intro a hs
   refine go_end ?_
   replace hw := hw.up 11
   replace hw := hw.up 11
   replace hw := hw.up 11
   replace hw := hw.up 11
   replace hw := hw.up 11
   replace hw := hw.up 11
   replace hw := hw.up 11
   replace hw := hw.up 11
   replace hw := hw.up 11
   replace hw := hw.up 11
   replace hw := hw.up 11
   replace hw := hw.up 11
   exact hJ2 (decide (v77 < 8)) _ _ hs.kx hw H
 clear H
 refine go_loop (σ := (List Int) × Int) (fun σ a w => Slots a 134 [(2, .slice A2 l2.length c2), (6, .pointer (some (⟨g2, 0, none⟩ : Addr))), (7, .pointer (some (⟨g27, 0, none⟩ : Addr))), (8, .int .i64 y39), (9, .int .i64 σ.2)] ∧ St [] w0 w [box g27 26 [.slice Aa22 σ.1.length cc23, .slice Aa44 t42.length cc45, .slice none ([] : List Sapi_Sym).length 0], own 3 (eI .i64) Aa44 cc45 t42, own 39 eSapi_Sym none 0 ([] : List Sapi_Sym), own 3 (eI .i64) none 0 ([] : List Int), own 39 eSapi_Sym none 0 ([] : List Sapi_Sym), own 3 (eI .i64) none 0 ([] : List Int), own 37 (eI .u32) none 0 ([] : List Int), own 37 (eI .u32) Aa22 cc23 σ.1, own 39 eSapi_Sym none 0 ([] : List Sapi_Sym), own 3 (eI .i64) none 0 ([] : List Int), own 37 (eI .u32) none 0 ([] : List Int), box g2 26 [.slice none ([] : List Int).length 0, .slice none ([] : List Int).length 0, .slice none ([] : List Sapi_Sym).length 0]]) hl53 (by exact ⟨hs.kx, hw⟩) ?_
 rintro ⟨l54, v55⟩ a w ⟨hs, hw⟩ o H hr53
 replace hs : Slots a 134 [(2, .slice A2 l2.length c2), (6, .pointer (some (⟨g2, 0, none⟩ : Addr))), (7, .pointer (some (⟨g27, 0, none⟩ : Addr))), (8, .int .i64 y39), (9, .int .i64 v55)] := hs
 replace hw : St [] w0 w [box g27 26 [.slice Aa22 l54.length cc23, .slice Aa44 t42.length cc45, .slice none ([] : List Sapi_Sym).length 0], own 3 (eI .i64) Aa44 cc45 t42, own 39 eSapi_Sym none 0 ([] : List Sapi_Sym), own 3 (eI .i64) none 0 ([] : List Int), own 39 eSapi_Sym none 0 ([] : List Sapi_Sym), own 3 (eI .i64) none 0 ([] : List Int), own 37 (eI .u32) none 0 ([] : List Int), own 37 (eI .u32) Aa22 cc23 l54, own 39 eSapi_Sym none 0 ([] : List Sapi_Sym), own 3 (eI .i64) none 0 ([] : List Int), own 37 (eI .u32) none 0 ([] : List Int), box g2 26 [.slice none ([] : List Int).length 0, .slice none ([] : List Int).length 0, .slice none ([] : List Sapi_Sym).length 0]] := hw
 replace H : rivetref09_Fit.b53 t42 y39 l54 v55 = some o := H
 unfold rivetref09_Fit.b53 at H
 refine go_seq_k fun K56 hK56 => ?_
 refine go_sk fun K57 hK57 => ?_
 refine go_pvs 2 [] [(29, .int .i64 v55), (30, .pointer (some (((⟨g27, 0, none⟩ : Addr) : Addr).add 1)))] hs ?_; clear hs; intro a hs
 refine go_run hs (by rfl) (x_bld (g := g27) (o := 1) (p := ((⟨g27, 0, none⟩ : Addr) : Addr).add 1) (v := .slice Aa44 t42.length cc45) (hw.up 0)) [30] ?_; clear hs; intro a hs
 refine go_pvs 5 [29, 31] [(33, .bool (decide (v55 < (t42.length : Int))))] hs ?_; clear hs; intro a hs
 refine go_end (hK57 _ _ ?_)
 refine go_cond hs (decide (v55 < (t42.length : Int))) (fun hc => ?_) fun hc => ?_
 ·replace H := ite_t H (of_decide_eq_true hc)
  have hb58 := hc
  rw [hb58] at hs
  refine wp_skip ?_
  refine hK56 _ _ ?_
  refine go_seq_k fun K59 hK59 => ?_
  refine wp_block ?_
  refine d_region [22] [(true, [0, 1, 2, 3, 4, 5, 6, 7, 8, 9, 10, 11, 12, 13, 14, 15, 16, 17, 18, 19, 20, 21], 22)] [] (by kernel_rfl) (by kernel_rfl) (fun c a d v w h => by cases d <;> exact h) ?_
  refine d_seg ?_
  refine c_pvs [0] [1, 2, 3, 4, 5, 6, 7, 8, 9, 10, 11, 12, 13, 14, 15, 16, 17, 18, 19, 20, 21] [33] [(36, .pointer (some (((⟨g27, 0, none⟩ : Addr) : Addr).add 0)))] hs ?_; clear hs; intro a hs
  refine d_run hs (by rfl) (fun wx hbx => (x_bldD (g := g27) (o := 0) (p := ((⟨g27, 0, none⟩ : Addr) : Addr).add 0) (v := .slice Aa22 l54.length cc23) (hw.up 0) hbx)) [36] ?_; clear hs; intro a hs
  refine c_pvs [2] [3, 4, 5, 6, 7, 8, 9, 10, 11, 12, 13, 14, 15, 16, 17, 18, 19, 20, 21] [] [(38, .pointer (some (((⟨g27, 0, none⟩ : Addr) : Addr).add 1)))] hs ?_; clear hs; intro a hs
  refine d_run hs (by rfl) (fun wx hbx => (x_bldD (g := g27) (o := 1) (p := ((⟨g27, 0, none⟩ : Addr) : Addr).add 1) (v := .slice Aa44 t42.length cc45) (hw.up 0) hbx)) [38] ?_; clear hs; intro a hs
  refine c_pvs [4] [5, 6, 7, 8, 9, 10, 11, 12, 13, 14, 15, 16, 17, 18, 19, 20, 21] [] [(40, .int .i64 v55)] hs ?_; clear hs; intro a hs
  obtain ⟨hp60, H⟩ := ite_only H
  obtain ⟨ad61, rfl⟩ := (Rd.of_own (hw.up 1)).some hp60.1 hp60.2
  refine d_run hs (by rfl) (fun wx hbx => (x_idx (T := 3) (sz := 1) (a := ad61) (n := t42.length) (cap := cc45) (k := .i64) (i := v55) hp60)) [39, 40] ?_; clear hs; intro a hs
  refine d_run hs (by rfl) (fun wx hbx => (x_ld (off := 0) (p := ad61.add (v55.toNat * 1)) (v := .int .i64 (ix (eI .i64).d t42 v55)) (Rd.bn (Rd.of_own (hw.up 1)) hbx) hp60 rfl)) [41] ?_; clear hs; intro a hs
  refine c_pvs [7] [8, 9, 10, 11, 12, 13, 14, 15, 16, 17, 18, 19, 20, 21] [] [(43, .pointer (some (((⟨g27, 0, none⟩ : Addr) : Addr).add 0)))] hs ?_; clear hs; intro a hs
  refine d_run hs (by rfl) (fun wx hbx => (x_bldD (g := g27) (o := 0) (p := ((⟨g27, 0, none⟩ : Addr) : Addr).add 0) (v := .slice Aa22 l54.length cc23) (hw.up 0) hbx)) [43] ?_; clear hs; intro a hs
  refine c_pvs [9] [10, 11, 12, 13, 14, 15, 16, 17, 18, 19, 20, 21] [] [(45, .pointer (some (((⟨g27, 0, none⟩ : Addr) : Addr).add 1)))] hs ?_; clear hs; intro a hs
  refine d_run hs (by rfl) (fun wx hbx => (x_bldD (g := g27) (o := 1) (p := ((⟨g27, 0, none⟩ : Addr) : Addr).add 1) (v := .slice (some ad61) t42.length cc45) (hw.up 0) hbx)) [45] ?_; clear hs; intro a hs
  refine c_pvs [11] [12, 13, 14, 15, 16, 17, 18, 19, 20, 21] [] [(47, .int .i64 v55)] hs ?_; clear hs; intro a hs
  obtain ⟨hp62, H⟩ := ite_only H
  refine d_run hs (by rfl) (fun wx hbx => (x_idx (T := 3) (sz := 1) (a := ad61) (n := t42.length) (cap := cc45) (k := .i64) (i := v55) hp62)) [46, 47] ?_; clear hs; intro a hs
  refine d_run hs (by rfl) (fun wx hbx => (x_ld (off := 0) (p := ad61.add (v55.toNat * 1)) (v := .int .i64 (ix (eI .i64).d t42 v55)) (Rd.bn (Rd.of_own (hw.up 1)) hbx) hp62 rfl)) [48] ?_; clear hs; intro a hs
  obtain ⟨hp63, H⟩ := ite_only H
  obtain ⟨ad64, rfl⟩ := (Rd.of_own (hw.up 7)).some hp63.1 hp63.2
  refine d_run hs (by rfl) (fun wx hbx => (x_idx (T := 37) (sz := 1) (a := ad64) (n := l54.length) (cap := cc23) (k := .i64) (i := (ix (eI .i64).d t42 v55)) hp63)) [44, 49] ?_; clear hs; intro a hs
  refine d_run hs (by rfl) (fun wx hbx => (x_ld (off := 0) (p := ad64.add ((ix (eI .i64).d t42 v55).toNat * 1)) (v := .int .u32 (ix (eI .u32).d l54 (ix (eI .i64).d t42 v55))) (Rd.bn (Rd.of_own (hw.up 7)) hbx) hp63 rfl)) [50] ?_; clear hs; intro a hs
  refine c_pvs [16, 17, 18, 19] [20, 21] [] [(55, .int .u32 (wu32 (w64 ((w64 (4 * y39)) + 1))))] hs ?_; clear hs; intro a hs
  obtain ⟨hp65, H⟩ := ite_only H
  refine d_run hs (by rfl) (fun wx hbx => (x_rem (k := .u32) (m := (ix (eI .u32).d l54 (ix (eI .i64).d t42 v55))) (n := wu32 (w64 ((w64 (4 * y39)) + 1))) (by kernel_rfl) (by kernel_rfl) hp65)) [51, 55] ?_; clear hs; intro a hs
  obtain ⟨hp66, H⟩ := ite_only H
  refine d_run hs (by rfl) (fun wx hbx => (x_idx (T := 37) (sz := 1) (a := ad64) (n := l54.length) (cap := cc23) (k := .i64) (i := (ix (eI .i64).d t42 v55)) hp66)) [37, 42] ?_; clear hs; intro a hs
  refine c_end ?_
  intro wq hbq
  replace hw := hw.behind hbq
  replace hw := hw.up 7
  obtain ⟨wd67, hx68, hw⟩ := x_put (P := Tryd.prog) (ty := 0) (t := 37) (x := (Operand.tmp 57)) (y := (Operand.tmp 56)) (off := 0) (p := ad64.add ((ix (eI .i64).d t42 v55).toNat * 1)) (v := .int .u32 ((ix (eI .u32).d l54 (ix (eI .i64).d t42 v55)).tmod (wu32 (w64 ((w64 (4 * y39)) + 1))))) (vs := [.int .u32 ((ix (eI .u32).d l54 (ix (eI .i64).d t42 v55)).tmod (wu32 (w64 ((w64 (4 * y39)) + 1))))]) (i := (ix (eI .i64).d t42 v55)) (e' := ((ix (eI .u32).d l54 (ix (eI .i64).d t42 v55)).tmod (wu32 (w64 ((w64 (4 * y39)) + 1))) : Int)) hs hw rfl hp66.1 hp66.2 (by kernel_rfl) rfl (by kernel_rfl) rfl (by kernel_rfl) (Nat.le_of_ble_eq_true rfl) (by simp [Value.oneCell']) (by kernel_rfl)
  refine p_unit hs (by rfl) hx68 [56, 57] ?_; clear hs; intro a hs
  replace hw : St [] w0 wd67 [own 37 (eI .u32) (some ad64) cc23 (l54.set ((ix (eI .i64).d t42 v55) : Int).toNat ((ix (eI .u32).d l54 (ix (eI .i64).d t42 v55)).tmod (wu32 (w64 ((w64 (4 * y39)) + 1))))), box g27 26 [.slice (some ad64) (l54.set ((ix (eI .i64).d t42 v55) : Int).toNat ((ix (eI .u32).d l54 (ix (eI .i64).d t42 v55)).tmod (wu32 (w64 ((w64 (4 * y39)) + 1))))).length cc23, .slice (some ad61) t42.length cc45, .slice none ([] : List Sapi_Sym).length 0], own 3 (eI .i64) (some ad61) cc45 t42, own 39 eSapi_Sym none 0 ([] : List Sapi_Sym), own 3 (eI .i64) none 0 ([] : List Int), own 39 eSapi_Sym none 0 ([] : List Sapi_Sym), own 3 (eI .i64) none 0 ([] : List Int), own 37 (eI .u32) none 0 ([] : List Int), own 39 eSapi_Sym none 0 ([] : List Sapi_Sym), own 3 (eI .i64) none 0 ([] : List Int), own 37 (eI .u32) none 0 ([] : List Int), box g2 26 [.slice none ([] : List Int).length 0, .slice none ([] : List Int).length 0, .slice none ([] : List Sapi_Sym).length 0]] := by rw [show (l54.set ((ix (eI .i64).d t42 v55) : Int).toNat ((ix (eI .u32).d l54 (ix (eI .i64).d t42 v55)).tmod (wu32 (w64 ((w64 (4 * y39)) + 1))))).length = (l54).length from List.length_set]; exact hw
  refine c_done ⟨.inl (by kernel_rfl), ?_⟩
  clear hbq
  refine d_last ?_
  refine c_end ?_
  intro wq hbq
  replace hw := hw.behind hbq
  refine ib_norm ?_
  refine hK59 _ _ ?_
  refine go_plain [] [(9, .int .i64 (w64 (v55 + 1)))] hs ?_; clear hs; intro a hs
  replace hw := hw.up 11
  replace hw := hw.up 11
  replace hw := hw.up 11
  replace hw := hw.up 11
  replace hw := hw.up 4
  replace hw := hw.up 11
  replace hw := hw.up 11
  replace hw := hw.up 11
  replace hw := hw.up 11
  replace hw := hw.up 11
  replace hw := hw.up 11
  replace hw := hw.up 11
  exact round_end (l54.set ((ix (eI .i64).d t42 v55) : Int).toNat ((ix (eI .u32).d l54 (ix (eI .i64).d t42 v55)).tmod (wu32 (w64 ((w64 (4 * y39)) + 1)))), w64 (v55 + 1)) (Option.some.inj H).symm ⟨hs.kx, hw⟩
 ·replace H := ite_f H (of_decide_eq_false hc)
  have hb69 := hc
  rw [hb69] at hs
  refine wp_exit ?_
  refine th_exit ?_
  refine th_exit ?_
  refine in_block ?_
  replace hw := hw.up 11
  replace hw := hw.up 11
  replace hw := hw.up 11
  replace hw := hw.up 11
  replace hw := hw.up 11
  replace hw := hw.up 11
  replace hw := hw.up 11
  replace hw := hw.up 11
  replace hw := hw.up 11
  replace hw := hw.up 11
  replace hw := hw.up 11
  replace hw := hw.up 11
  rw [← hr53 _ (Option.some.inj H).symm] at HX53
  exact hJ1 l54 _ _ hs.kx hw HX53

/-! rivet/rivetlaw09.shown: function 13 -/
noncomputable def rivetlaw09_shown.j1 (v42 : Bool) : Option Bool := some v42
noncomputable def rivetlaw09_shown : Option Bool := ((object_May (⟨([4] : List Int), ([0] : List Int), ([] : List Sapi_Sym)⟩ : Sapi_Obj)).bind fun t14 => (((object_May (⟨([8] : List Int), ([0] : List Int), ([] : List Sapi_Sym)⟩ : Sapi_Obj)).bind fun t30 => ((if t14 = 0 then (if t30 = 8 then ((object_Same (⟨([] : List Int), ([] : List Int), ([] : List Sapi_Sym)⟩ : Sapi_Obj) (⟨([] : List Int), ([] : List Int), ([] : List Sapi_Sym)⟩ : Sapi_Obj)).bind fun t38 => (rivetlaw09_shown.j1 t38)) else rivetlaw09_shown.j1 false) else rivetlaw09_shown.j1 false)))))
set_option maxRecDepth 100000 in
set_option maxHeartbeats 4000000 in
theorem rivetlaw09_shown.calls (r : Bool) (w0 : World) (H : rivetlaw09_shown = some r) :
    Calls Tryd.prog 13 #[] w0 fun e w' => e = .returned (.bool r) ∧ St [] w0 w' [] := by
 have hw : St [] w0 w0 [] := St.nil w0
 unfold rivetlaw09_shown at H
 refine go_fn Tryd.func13 rfl Tryd.ntmps13 ?_; intro a hs
 refine go_sp [] [] hs ?_; clear hs; intro a hs
 refine go_sk fun K2 hK2 => ?_
 obtain ⟨Aa3, cc4, wd5, hx6, hw⟩ := n_lit (P := Tryd.prog) (t := 22) (ty := 22) (T := 37) (len := 1) (parts := #[(0, (Operand.const (Value.int IntKind.u32 4)))]) (z := .int .u32 0) (bytes := 4) (cells := #[.int .u32 4]) hs hw (eI .u32) ([4] : List Int) (by kernel_rfl) (by kernel_rfl) (by kernel_rfl) (by kernel_rfl) (by kernel_rfl) (by kernel_rfl) (by kernel_rfl)
 refine go_run hs (by rfl) hx6 [] ?_; clear hs; intro a hs
 obtain ⟨Aa8, cc9, wd10, hx11, hw⟩ := n_lit (P := Tryd.prog) (t := 23) (ty := 23) (T := 3) (len := 1) (parts := #[(0, (Operand.const (Value.int IntKind.i64 0)))]) (z := .int .i64 0) (bytes := 8) (cells := #[.int .i64 0]) hs hw (eI .i64) ([0] : List Int) (by kernel_rfl) (by kernel_rfl) (by kernel_rfl) (by kernel_rfl) (by kernel_rfl) (by kernel_rfl) (by kernel_rfl)
 refine go_run hs (by rfl) hx11 [] ?_; clear hs; intro a hs
 refine go_pvs 3 [3, 4] [(5, .agg #[.slice Aa3 ([4] : List Int).length cc4, .slice Aa8 ([0] : List Int).length cc9, .slice none 0 0])] hs ?_; clear hs; intro a hs
 obtain ⟨t14, hx15, H⟩ := bind_some H
 refine go_call hs (by rfl) (object_May.calls (⟨([4] : List Int), ([0] : List Int), ([] : List Sapi_Sym)⟩ : Sapi_Obj) Aa3 cc4 Aa8 cc9 none 0 t14 _ (Rd.of_own (hw.up 1)) (Rd.of_own (hw.up 0)) (Rd.nil _ _) hx15) ?_
 rintro e wd16 ⟨rfl, hw17⟩
 refine ⟨_, rfl, ?_⟩
 replace hw := hw.call hw17
 clear hs; intro a hs; replace hs := hs.rms [5]
 refine go_pvs 5 [6] [(1, .int .i64 t14)] hs ?_; clear hs; intro a hs
 refine go_end (hK2 _ _ ?_)
 refine go_sk fun K18 hK18 => ?_
 obtain ⟨Aa19, cc20, wd21, hx22, hw⟩ := n_lit (P := Tryd.prog) (t := 22) (ty := 22) (T := 37) (len := 1) (parts := #[(0, (Operand.const (Value.int IntKind.u32 8)))]) (z := .int .u32 0) (bytes := 4) (cells := #[.int .u32 8]) hs hw (eI .u32) ([8] : List Int) (by kernel_rfl) (by kernel_rfl) (by kernel_rfl) (by kernel_rfl) (by kernel_rfl) (by kernel_rfl) (by kernel_rfl)
 refine go_run hs (by rfl) hx22 [] ?_; clear hs; intro a hs
 obtain ⟨Aa24, cc25, wd26, hx27, hw⟩ := n_lit (P := Tryd.prog) (t := 23) (ty := 23) (T := 3) (len := 1) (parts := #[(0, (Operand.const (Value.int IntKind.i64 0)))]) (z := .int .i64 0) (bytes := 8) (cells := #[.int .i64 0]) hs hw (eI .i64) ([0] : List Int) (by kernel_rfl) (by kernel_rfl) (by kernel_rfl) (by kernel_rfl) (by kernel_rfl) (by kernel_rfl) (by kernel_rfl)
 refine go_run hs (by rfl) hx27 [] ?_; clear hs; intro a hs
 refine go_pvs 3 [7, 8] [(9, .agg #[.slice Aa19 ([8] : List Int).length cc20, .slice Aa24 ([0] : List Int).length cc25, .slice none 0 0])] hs ?_; clear hs; intro a hs
 obtain ⟨t30, hx31, H⟩ := bind_some H
 refine go_call hs (by rfl) (object_May.calls (⟨([8] : List Int), ([0] : List Int), ([] : List Sapi_Sym)⟩ : Sapi_Obj) Aa19 cc20 Aa24 cc25 none 0 t30 _ (Rd.of_own (hw.up 1)) (Rd.of_own (hw.up 0)) (Rd.nil _ _) hx31) ?_
 rintro e wd32 ⟨rfl, hw33⟩
 refine ⟨_, rfl, ?_⟩
 replace hw := hw.call hw33
 clear hs; intro a hs; replace hs := hs.rms [9]
 refine go_pvs 5 [10] [(2, .int .i64 t30)] hs ?_; clear hs; intro a hs
 refine go_end (hK18 _ _ ?_)
 refine go_seq_k fun K34 hK34 => ?_
 have hJ1 : ∀ (v42 : Bool) (a : Act) (w : World), Slots a 22 [(0, .bool v42)] → St [] w0 w [own 3 (eI .i64) Aa24 cc25 ([0] : List Int), own 37 (eI .u32) Aa19 cc20 ([8] : List Int), own 3 (eI .i64) Aa8 cc9 ([0] : List Int), own 37 (eI .u32) Aa3 cc4 ([4] : List Int)] → rivetlaw09_shown.j1 v42 = some r → K34 a w := by
  intro v42 a w hs hw H
  unfold rivetlaw09_shown.j1 at H
  refine hK34 _ _ ?_
  refine wp_ret ?_
  obtain rfl := Option.some.inj H
  refine ret1 (t := 0) (v := .bool v42) hs (by kernel_rfl) (by kernel_rfl) ?_
  exact ⟨rfl, hw.only 0⟩
 refine go_region ?_
 refine go_pvs 3 [1] [(13, .bool (t14 == 0))] hs ?_; clear hs; intro a hs
 cases hb35 : (t14 == 0)
 ·replace H := ite_f H (beq_eq_false_iff_ne.1 hb35)
  rw [hb35] at hs
  refine go_pvs 12 [2, 13] [(0, .bool false)] hs ?_; clear hs; intro a hs
  refine go_end ?_
  replace hw := hw.up 3
  replace hw := hw.up 3
  replace hw := hw.up 3
  replace hw := hw.up 3
  exact hJ1 false _ _ hs.kx hw H
 ·replace H := ite_t H (beq_iff_eq.1 hb35)
  rw [hb35] at hs
  refine go_pvs 7 [2, 13] [(17, .bool (t30 == 8))] hs ?_; clear hs; intro a hs
  cases hb36 : (t30 == 8)
  ·replace H := ite_f H (beq_eq_false_iff_ne.1 hb36)
   rw [hb36] at hs
   refine go_pvs 12 [17] [(0, .bool false)] hs ?_; clear hs; intro a hs
   refine go_end ?_
   replace hw := hw.up 3
   replace hw := hw.up 3
   replace hw := hw.up 3
   replace hw := hw.up 3
   exact hJ1 false _ _ hs.kx hw H
  ·replace H := ite_t H (beq_iff_eq.1 hb36)
   rw [hb36] at hs
   refine go_pvs 9 [] [(18, .agg #[.slice none 0 0, .slice none 0 0, .slice none 0 0]), (19, .agg #[.slice none 0 0, .slice none 0 0, .slice none 0 0])] hs ?_; clear hs; intro a hs
   obtain ⟨t38, hx39, H⟩ := bind_some H
   refine go_call hs (by rfl) (object_Same.calls (⟨([] : List Int), ([] : List Int), ([] : List Sapi_Sym)⟩ : Sapi_Obj) none 0 none 0 none 0 (⟨([] : List Int), ([] : List Int), ([] : List Sapi_Sym)⟩ : Sapi_Obj) none 0 none 0 none 0 t38 _ (Rd.nil _ _) (Rd.nil _ _) (Rd.nil _ _) (Rd.nil _ _) (Rd.nil _ _) (Rd.nil _ _) hx39) ?_
   rintro e wd40 ⟨rfl, hw41⟩
   refine ⟨_, rfl, ?_⟩
   replace hw := hw.call hw41
   clear hs; intro a hs; replace hs := hs.rms [18, 19]
   refine go_pvs 12 [17, 20] [(0, .bool t38)] hs ?_; clear hs; intro a hs
   refine go_end ?_
   replace hw := hw.up 3
   replace hw := hw.up 3
   replace hw := hw.up 3
   replace hw := hw.up 3
   exact hJ1 t38 _ _ hs.kx hw H

end Go.Proofs.YtmfnololpfdfdaaDoor.T09
