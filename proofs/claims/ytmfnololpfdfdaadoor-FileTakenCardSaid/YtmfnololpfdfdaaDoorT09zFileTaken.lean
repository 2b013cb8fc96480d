/- YtmfnololpfdfdaaDoorT09zFileTaken: Go functions told as plain ones, each with a proof that its call comes to what is told, part 1. Condition of each: that the plain function comes to a value. -/
import Derived.Test.YtmfnololpfdfdaaDoorT10
import Derived.Test.YtmfnololpfdfdaaDoorEO
import Derived.Test.YtmfnololpfdfdaaDoorProg
namespace Go.Proofs.YtmfnololpfdfdaaDoor.T09
open Go Go.RowKit Go.Proofs.YtmfnololpfdfdaaDoor.E
set_option linter.unusedVariables false
set_option linter.unusedSimpArgs false

/-! rivet/rivetlaw10.FileTaken: function 11 -/
noncomputable def rivetlaw10_FileTaken.j1 (v55 : Bool) : Option Bool := some v55
noncomputable def rivetlaw10_FileTaken.j2 (v76 : Bool) : Option Bool := some v76
noncomputable def rivetlaw10_FileTaken (l0 : List Int) : Option Bool := ((rivetlaw10_shown).bind fun t4 => ((if 0 ≤ (mnn (l0.length : Int) 400) ∧ (mnn (l0.length : Int) 400) ≤ (l0.length : Int) then ((file_Take (l0.take (mnn (l0.length : Int) 400 : Int).toNat)).bind fun ⟨t20, t21⟩ => ((if t21 = 0 then ((file_Put t20).bind fun ⟨t59, t60⟩ => ((if t4 = true then (if t60 = 0 then (if ((strOfNums t59).toList == (strOfNums (l0.take (mnn (l0.length : Int) 400 : Int).toNat)).toList) = true then ((object_May t20).bind fun t72 => (rivetlaw10_FileTaken.j2 (t72 == 0))) else rivetlaw10_FileTaken.j2 false) else rivetlaw10_FileTaken.j2 false) else rivetlaw10_FileTaken.j2 false))) else (if t4 = true then ((object_Same t20 (⟨([] : List Int), ([] : List Int), ([] : List Sapi_Sym)⟩ : Sapi_Obj)).bind fun t49 => ((if t49 = true then (if t21 = 7 then rivetlaw10_FileTaken.j1 false else rivetlaw10_FileTaken.j1 (t21 != 8)) else rivetlaw10_FileTaken.j1 false))) else rivetlaw10_FileTaken.j1 false)))) else none)))
set_option maxRecDepth 100000 in
set_option maxHeartbeats 4000000 in
theorem rivetlaw10_FileTaken.calls (A0 : Option Addr) (c0 : Nat) (l0 : List Int) (r : Bool) (w0 : World) (hr0 : Rd w0 (eI .u8) A0 c0 l0) (H : rivetlaw10_FileTaken l0 = some r) :
    Calls Tryd.prog 11 #[.slice A0 l0.length c0] w0 fun e w' => e = .returned (.bool r) ∧ St [] w0 w' [] := by
 have hw : St [] w0 w0 [] := St.nil w0
 unfold rivetlaw10_FileTaken at H
 refine go_fn Tryd.func11 rfl Tryd.ntmps11 ?_; intro a hs
 refine go_sp [] [] hs ?_; clear hs; intro a hs
 refine go_sk fun K2 hK2 => ?_
 obtain ⟨t4, hx5, H⟩ := bind_some H
 refine go_call hs (by rfl) (rivetlaw10_shown.calls t4 _ hx5) ?_
 rintro e wd6 ⟨rfl, hw7⟩
 refine ⟨_, rfl, ?_⟩
 replace hw := hw.call hw7
 clear hs; intro a hs
 refine go_pvs 2 [9] [(3, .bool t4)] hs ?_; clear hs; intro a hs
 refine go_end (hK2 _ _ ?_)
 refine go_sk fun K8 hK8 => ?_
 refine go_pvs 1 [0] [(10, .slice A0 l0.length c0)] hs ?_; clear hs; intro a hs
 refine go_inline_k hs (by rfl) (f := 25) (args := #[.slice A0 l0.length c0]) (fun KR9 hKR9 => ?_)
 refine go_fn Tryd.func25 rfl Tryd.ntmps25 ?_; clear hs; intro a hs
 refine go_sp [] [] hs ?_; clear hs; intro a hs
 refine go_sk fun K11 hK11 => ?_
 refine go_pvs 4 [0] [(3, .slice A0 l0.length c0), (6, .int .i64 (mnn (l0.length : Int) 400))] hs ?_; clear hs; intro a hs
 obtain ⟨hp12, H⟩ := ite_only H
 obtain ⟨Aa13, cc14, hx15, hc16⟩ := c_hi (P := Tryd.prog) (ty := 32) (E := (eI .u8)) (T := 5) (t := 32) (x := (Operand.tmp 3)) (y := (Operand.tmp 6)) (k := .i64) hs (by kernel_rfl) (by kernel_rfl) (hr0.old hw) (by kernel_rfl) (by kernel_rfl) hp12.1 hp12.2
 refine go_run hs (by rfl) hx15 [3, 6] ?_; clear hs; intro a hs
 refine go_pvs 6 [7] [(2, .slice Aa13 (l0.take (mnn (l0.length : Int) 400 : Int).toNat).length cc14)] hs ?_; clear hs; intro a hs
 refine go_end (hK11 _ _ ?_)
 refine wp_ret ?_
 refine ret1 (t := 2) (v := .slice Aa13 (l0.take (mnn (l0.length : Int) 400 : Int).toNat).length cc14) hs (by kernel_rfl) (by kernel_rfl) ?_
 refine ⟨_, rfl, ?_⟩
 refine hKR9 _ _ ?_
 intro a hs1; have hs : Slots a _ [(3, .bool t4), (11, .slice Aa13 (l0.take (mnn (l0.length : Int) 400 : Int).toNat).length cc14)] := hs1.kx; clear hs1
 refine go_pvs 3 [11] [(4, .slice Aa13 (l0.take (mnn (l0.length : Int) 400 : Int).toNat).length cc14)] hs ?_; clear hs; intro a hs
 refine go_end (hK8 _ _ ?_)
 refine go_sk fun K18 hK18 => ?_
 refine go_pvs 1 [] [(13, .slice Aa13 (l0.take (mnn (l0.length : Int) 400 : Int).toNat).length cc14)] hs ?_; clear hs; intro a hs
 obtain ⟨⟨t20, t21⟩, hx22, H⟩ := bind_some H
 refine go_call hs (by rfl) (file_Take.calls Aa13 cc14 (l0.take (mnn (l0.length : Int) 400 : Int).toNat) (t20, t21) _ (hc16 _ (hr0.old hw)) hx22) ?_
 rintro e wd29 ⟨Aa23, cc24, Aa25, cc26, Aa27, cc28, rfl, hw30⟩
 refine ⟨_, rfl, ?_⟩
 replace hw := hw.call hw30
 clear hs; intro a hs; replace hs := hs.rms [13]
 refine go_pvs 5 [14] [(15, .agg #[.slice Aa23 t20.Words.length cc24, .slice Aa25 t20.Sites.length cc26, .slice Aa27 t20.Syms.length cc28]), (16, .int .i64 t21)] hs ?_; clear hs; intro a hs
 obtain ⟨g34, wd35, hx36, hw⟩ := x_allocc (P := Tryd.prog) (elem := 26) (ty := 0) (z := .agg #[.slice none 0 0, .slice none 0 0, .slice none 0 0]) (cs := [.slice none 0 0, .slice none 0 0, .slice none 0 0]) hs hw (by kernel_rfl) (by kernel_rfl)
 refine go_run hs (by rfl) hx36 [] ?_; clear hs; intro a hs
 replace hw := St.own_nil hw 37 (eI .u32)
 replace hw := St.own_nil hw 3 (eI .i64)
 replace hw := St.own_nil hw 39 eSapi_Sym
 replace hw : St [] w0 wd35 [own 39 eSapi_Sym none 0 ([] : List Sapi_Sym), own 3 (eI .i64) none 0 ([] : List Int), own 37 (eI .u32) none 0 ([] : List Int), box g34 26 [.slice none ([] : List Int).length 0, .slice none ([] : List Int).length 0, .slice none ([] : List Sapi_Sym).length 0], own 37 (eI .u32) Aa23 cc24 t20.Words, own 3 (eI .i64) Aa25 cc26 t20.Sites, own 39 eSapi_Sym Aa27 cc28 t20.Syms] := hw
 replace hw := hw.up 3
 obtain ⟨wd41, hx42, hw⟩ := x_bput (P := Tryd.prog) (ty := 0) (t := 26) (y := (Operand.tmp 5)) (z := (Operand.tmp 15)) (o := 0) (p := (⟨g34, 0, none⟩ : Addr)) (v := .agg #[.slice Aa23 t20.Words.length cc24, .slice Aa25 t20.Sites.length cc26, .slice Aa27 t20.Syms.length cc28]) (vs := [.slice Aa23 t20.Words.length cc24, .slice Aa25 t20.Sites.length cc26, .slice Aa27 t20.Syms.length cc28]) (cs' := [.slice Aa23 t20.Words.length cc24, .slice Aa25 t20.Sites.length cc26, .slice Aa27 t20.Syms.length cc28]) hs hw (by kernel_rfl) rfl (by kernel_rfl) rfl (by kernel_rfl) (by kernel_rfl) (by simp [Value.oneCell']) rfl
 refine go_unit hs (by rfl) hx42 [15] ?_; clear hs; intro a hs
 refine go_pvs 8 [16] [(6, .int .i64 t21)] hs ?_; clear hs; intro a hs
 refine go_end (hK18 _ _ ?_)
 refine go_seq_k fun K43 hK43 => ?_
 refine go_sp [] [(18, .bool (t21 != 0))] hs ?_; clear hs; intro a hs
 refine go_cond hs (t21 != 0) (fun hc => ?_) fun hc => ?_
 ·replace H := ite_f H (bne_iff_ne.1 hc)
  have hb45 := hc
  rw [hb45] at hs
  refine go_seq_k fun K46 hK46 => ?_
  have hJ1 : ∀ (v55 : Bool) (a : Act) (w : World), Slots a 55 [(2, .bool v55)] → St [] w0 w [box g34 26 [.slice Aa23 t20.Words.length cc24, .slice Aa25 t20.Sites.length cc26, .slice Aa27 t20.Syms.length cc28], own 39 eSapi_Sym none 0 ([] : List Sapi_Sym), own 3 (eI .i64) none 0 ([] : List Int), own 37 (eI .u32) none 0 ([] : List Int), own 37 (eI .u32) Aa23 cc24 t20.Words, own 3 (eI .i64) Aa25 cc26 t20.Sites, own 39 eSapi_Sym Aa27 cc28 t20.Syms] → rivetlaw10_FileTaken.j1 v55 = some r → K46 a w := by
   intro v55 a w hs hw H
   unfold rivetlaw10_FileTaken.j1 at H
   refine hK46 _ _ ?_
   refine wp_ret ?_
   refine th_ret ?_
   obtain rfl := Option.some.inj H
   refine ret1 (t := 2) (v := .bool v55) hs (by kernel_rfl) (by kernel_rfl) ?_
   exact ⟨rfl, hw.only 0⟩
  refine go_region ?_
  refine go_pvs 2 [3, 4, 18] [(20, .bool t4)] hs ?_; clear hs; intro a hs
  cases hb47 : t4
  ·replace H := ite_f H (ff hb47)
   rw [hb47] at hs
   refine go_pvs 15 [5, 6, 20] [(2, .bool false)] hs ?_; clear hs; intro a hs
   refine go_end ?_
   replace hw := hw.up 6
   replace hw := hw.up 6
   replace hw := hw.up 6
   replace hw := hw.up 6
   replace hw := hw.up 6
   replace hw := hw.up 6
   replace hw := hw.up 6
   exact hJ1 false _ _ hs.kx hw H
  ·replace H := ite_t H hb47
   rw [hb47] at hs
   refine go_run hs (by rfl) (x_blds (g := g34) (o := 0) (p := (⟨g34, 0, none⟩ : Addr)) (vs := [.slice Aa23 t20.Words.length cc24, .slice Aa25 t20.Sites.length cc26, .slice Aa27 t20.Syms.length cc28]) (hw.up 0)) [5] ?_; clear hs; intro a hs
   refine go_pvs 4 [] [(22, .agg #[.slice none 0 0, .slice none 0 0, .slice none 0 0])] hs ?_; clear hs; intro a hs
   obtain ⟨t49, hx50, H⟩ := bind_some H
   refine go_call hs (by rfl) (object_Same.calls t20 Aa23 cc24 Aa25 cc26 Aa27 cc28 (⟨([] : List Int), ([] : List Int), ([] : List Sapi_Sym)⟩ : Sapi_Obj) none 0 none 0 none 0 t49 _ (Rd.of_own (hw.up 4)) (Rd.of_own (hw.up 5)) (Rd.of_own (hw.up 6)) (Rd.nil _ _) (Rd.nil _ _) (Rd.nil _ _) hx50) ?_
   rintro e wd51 ⟨rfl, hw52⟩
   refine ⟨_, rfl, ?_⟩
   replace hw := hw.call hw52
   clear hs; intro a hs; replace hs := hs.rms [21, 22]
   refine go_pvs 7 [20, 23] [(25, .bool t49)] hs ?_; clear hs; intro a hs
   cases hb53 : t49
   ·replace H := ite_f H (ff hb53)
    rw [hb53] at hs
    refine go_pvs 15 [6, 25] [(2, .bool false)] hs ?_; clear hs; intro a hs
    refine go_end ?_
    replace hw := hw.up 6
    replace hw := hw.up 6
    replace hw := hw.up 6
    replace hw := hw.up 6
    replace hw := hw.up 6
    replace hw := hw.up 6
    replace hw := hw.up 6
    exact hJ1 false _ _ hs.kx hw H
   ·replace H := ite_t H hb53
    rw [hb53] at hs
    refine go_pvs 11 [25] [(29, .bool (t21 != 7))] hs ?_; clear hs; intro a hs
    cases hb54 : (t21 != 7)
    ·replace H := ite_t H (bne_eq_false_iff_eq.1 hb54)
     rw [hb54] at hs
     refine go_pvs 15 [6, 29] [(2, .bool false)] hs ?_; clear hs; intro a hs
     refine go_end ?_
     replace hw := hw.up 6
     replace hw := hw.up 6
     replace hw := hw.up 6
     replace hw := hw.up 6
     replace hw := hw.up 6
     replace hw := hw.up 6
     replace hw := hw.up 6
     exact hJ1 false _ _ hs.kx hw H
    ·replace H := ite_f H (bne_iff_ne.1 hb54)
     rw [hb54] at hs
     refine go_pvs 15 [6, 29] [(2, .bool (t21 != 8))] hs ?_; clear hs; intro a hs
     refine go_end ?_
     replace hw := hw.up 6
     replace hw := hw.up 6
     replace hw := hw.up 6
     replace hw := hw.up 6
     replace hw := hw.up 6
     replace hw := hw.up 6
     replace hw := hw.up 6
     exact hJ1 (t21 != 8) _ _ hs.kx hw H
 ·replace H := ite_t H (bne_eq_false_iff_eq.1 hc)
  have hb56 := hc
  rw [hb56] at hs
  refine wp_skip ?_
  refine hK43 _ _ ?_
  refine go_sk fun K57 hK57 => ?_
  refine go_run hs (by rfl) (x_blds (g := g34) (o := 0) (p := (⟨g34, 0, none⟩ : Addr)) (vs := [.slice Aa23 t20.Words.length cc24, .slice Aa25 t20.Sites.length cc26, .slice Aa27 t20.Syms.length cc28]) (hw.up 0)) [6, 18] ?_; clear hs; intro a hs
  obtain ⟨⟨t59, t60⟩, hx61, H⟩ := bind_some H
  refine go_call hs (by rfl) (file_Put.calls t20 Aa23 cc24 Aa25 cc26 Aa27 cc28 (t59, t60) _ (Rd.of_own (hw.up 4)) (Rd.of_own (hw.up 5)) (Rd.of_own (hw.up 6)) hx61) ?_
  rintro e wd64 ⟨Aa62, cc63, rfl, hw65⟩
  refine ⟨_, rfl, ?_⟩
  replace hw := hw.call hw65
  clear hs; intro a hs; replace hs := hs.rms [34]
  refine go_pvs 7 [35] [(7, .slice Aa62 t59.length cc63), (8, .int .i64 t60)] hs ?_; clear hs; intro a hs
  refine go_end (hK57 _ _ ?_)
  refine go_seq_k fun K67 hK67 => ?_
  have hJ2 : ∀ (v76 : Bool) (a : Act) (w : World), Slots a 55 [(2, .bool v76)] → St [] w0 w [own 5 (eI .u8) Aa62 cc63 t59, box g34 26 [.slice Aa23 t20.Words.length cc24, .slice Aa25 t20.Sites.length cc26, .slice Aa27 t20.Syms.length cc28], own 39 eSapi_Sym none 0 ([] : List Sapi_Sym), own 3 (eI .i64) none 0 ([] : List Int), own 37 (eI .u32) none 0 ([] : List Int), own 37 (eI .u32) Aa23 cc24 t20.Words, own 3 (eI .i64) Aa25 cc26 t20.Sites, own 39 eSapi_Sym Aa27 cc28 t20.Syms] → rivetlaw10_FileTaken.j2 v76 = some r → K67 a w := by
   intro v76 a w hs hw H
   unfold rivetlaw10_FileTaken.j2 at H
   refine hK67 _ _ ?_
   refine wp_ret ?_
   obtain rfl := Option.some.inj H
   refine ret1 (t := 2) (v := .bool v76) hs (by kernel_rfl) (by kernel_rfl) ?_
   exact ⟨rfl, hw.only 0⟩
  refine go_region ?_
  refine go_pvs 2 [3] [(39, .bool t4)] hs ?_; clear hs; intro a hs
  cases hb68 : t4
  ·replace H := ite_f H (ff hb68)
   rw [hb68] at hs
   refine go_pvs 18 [4, 5, 7, 8, 39] [(2, .bool false)] hs ?_; clear hs; intro a hs
   refine go_end ?_
   replace hw := hw.up 7
   replace hw := hw.up 7
   replace hw := hw.up 7
   replace hw := hw.up 7
   replace hw := hw.up 7
   replace hw := hw.up 7
   replace hw := hw.up 7
   replace hw := hw.up 7
   exact hJ2 false _ _ hs.kx hw H
  ·replace H := ite_t H hb68
   rw [hb68] at hs
   refine go_pvs 6 [8, 39] [(43, .bool (t60 == 0))] hs ?_; clear hs; intro a hs
   cases hb69 : (t60 == 0)
   ·replace H := ite_f H (beq_eq_false_iff_ne.1 hb69)
    rw [hb69] at hs
    refine go_pvs 18 [4, 5, 7, 43] [(2, .bool false)] hs ?_; clear hs; intro a hs
    refine go_end ?_
    replace hw := hw.up 7
    replace hw := hw.up 7
    replace hw := hw.up 7
    replace hw := hw.up 7
    replace hw := hw.up 7
    replace hw := hw.up 7
    replace hw := hw.up 7
    replace hw := hw.up 7
    exact hJ2 false _ _ hs.kx hw H
   ·replace H := ite_t H (beq_iff_eq.1 hb69)
    rw [hb69] at hs
    refine go_pvs 7 [7] [(44, .slice Aa62 t59.length cc63)] hs ?_; clear hs; intro a hs
    refine go_run hs (by rfl) (x_conv (e := 5) (l := t59) (Rd.of_own (hw.up 0)) (by kernel_rfl) (by kernel_rfl) (by kernel_rfl) (by kernel_rfl)) [44] ?_; clear hs; intro a hs
    refine go_pvs 9 [4] [(46, .slice Aa13 (l0.take (mnn (l0.length : Int) 400 : Int).toNat).length cc14)] hs ?_; clear hs; intro a hs
    refine go_run hs (by rfl) (x_conv (e := 5) (l := l0.take (mnn (l0.length : Int) 400 : Int).toNat) (hc16 _ (hr0.old hw)) (by kernel_rfl) (by kernel_rfl) (by kernel_rfl) (by kernel_rfl)) [46] ?_; clear hs; intro a hs
    refine go_pvs 13 [43, 45, 47] [(50, .bool ((strOfNums t59).toList == (strOfNums (l0.take (mnn (l0.length : Int) 400 : Int).toNat)).toList))] hs ?_; clear hs; intro a hs
    cases hb70 : ((strOfNums t59).toList == (strOfNums (l0.take (mnn (l0.length : Int) 400 : Int).toNat)).toList)
    ·replace H := ite_f H (ff hb70)
     rw [hb70] at hs
     refine go_pvs 18 [5, 50] [(2, .bool false)] hs ?_; clear hs; intro a hs
     refine go_end ?_
     replace hw := hw.up 7
     replace hw := hw.up 7
     replace hw := hw.up 7
     replace hw := hw.up 7
     replace hw := hw.up 7
     replace hw := hw.up 7
     replace hw := hw.up 7
     replace hw := hw.up 7
     exact hJ2 false _ _ hs.kx hw H
    ·replace H := ite_t H hb70
     rw [hb70] at hs
     refine go_run hs (by rfl) (x_blds (g := g34) (o := 0) (p := (⟨g34, 0, none⟩ : Addr)) (vs := [.slice Aa23 t20.Words.length cc24, .slice Aa25 t20.Sites.length cc26, .slice Aa27 t20.Syms.length cc28]) (hw.up 1)) [5] ?_; clear hs; intro a hs
     obtain ⟨t72, hx73, H⟩ := bind_some H
     refine go_call hs (by rfl) (object_May.calls t20 Aa23 cc24 Aa25 cc26 Aa27 cc28 t72 _ (Rd.of_own (hw.up 5)) (Rd.of_own (hw.up 6)) (Rd.of_own (hw.up 7)) hx73) ?_
     rintro e wd74 ⟨rfl, hw75⟩
     refine ⟨_, rfl, ?_⟩
     replace hw := hw.call hw75
     clear hs; intro a hs; replace hs := hs.rms [51]
     refine go_pvs 18 [50, 52] [(2, .bool (t72 == 0))] hs ?_; clear hs; intro a hs
     refine go_end ?_
     replace hw := hw.up 7
     replace hw := hw.up 7
     replace hw := hw.up 7
     replace hw := hw.up 7
     replace hw := hw.up 7
     replace hw := hw.up 7
     replace hw := hw.up 7
     replace hw := hw.up 7
     exact hJ2 (t72 == 0) _ _ hs.kx hw H

end Go.Proofs.YtmfnololpfdfdaaDoor.T09
