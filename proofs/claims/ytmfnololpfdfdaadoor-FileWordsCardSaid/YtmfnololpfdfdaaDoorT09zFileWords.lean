/- YtmfnololpfdfdaaDoorT09zFileWords: Go functions told as plain ones, each with a proof that its call comes to what is told, part 1. Condition of each: that the plain function comes to a value. -/
import Derived.Test.YtmfnololpfdfdaaDoorT10
import Derived.Test.YtmfnololpfdfdaaDoorEO
import Derived.Test.YtmfnololpfdfdaaDoorProg
namespace Go.Proofs.YtmfnololpfdfdaaDoor.T09
open Go Go.RowKit Go.Proofs.YtmfnololpfdfdaaDoor.E
set_option linter.unusedVariables false
set_option linter.unusedSimpArgs false

/-! rivet/rivetlaw10.FileWords: function 12 -/
noncomputable def rivetlaw10_FileWords.j1 (v264 : Bool) : Option Bool := some v264
noncomputable def rivetlaw10_FileWords (l0 : List Int) (a1 : Int) (a2 : Int) : Option Bool := ((rivetlaw10_shown).bind fun t4 => ((if 0 ≤ (mnn (l0.length : Int) 30) ∧ (mnn (l0.length : Int) 30) ≤ (l0.length : Int) then (nm (wu32 ((l0.take (mnn (l0.length : Int) 30 : Int).toNat).length : Int)) fun y16 => ((le_Put ([894847314, y16, 0, 0] : List Int)).bind fun t24 => (((le_Put (l0.take (mnn (l0.length : Int) 30 : Int).toNat)).bind fun t32 => ((if t24.length + t32.length ≤ 140737488355328 then ((file_Take (t24 ++ t32)).bind fun ⟨t47, t48⟩ => (((le_Put ([a1, y16, 0, 0] : List Int)).bind fun t77 => (((le_Put (l0.take (mnn (l0.length : Int) 30 : Int).toNat)).bind fun t85 => ((if t77.length + t85.length ≤ 140737488355328 then ((file_Take (t77 ++ t85)).bind fun ⟨t100, t101⟩ => (((le_Put ([894847314, y16, wu32 ((wu32 (y16 + 1)) + (a2.tmod 1000)), 0] : List Int)).bind fun t130 => (((le_Put (l0.take (mnn (l0.length : Int) 30 : Int).toNat)).bind fun t138 => ((if t130.length + t138.length ≤ 140737488355328 then ((file_Take (t130 ++ t138)).bind fun ⟨t153, t154⟩ => (((le_Put ([894847314, 1025, 0, 0] : List Int)).bind fun t183 => (((file_Take t183).bind fun ⟨t191, t192⟩ => (((le_Put ([894847314, 0, 0, 65] : List Int)).bind fun t221 => (((file_Take t221).bind fun ⟨t229, t230⟩ => ((if t4 = true then (if t48 = 0 then ((object_Same t47 (⟨l0.take (mnn (l0.length : Int) 30 : Int).toNat, ([] : List Int), ([] : List Sapi_Sym)⟩ : Sapi_Obj)).bind fun t256 => ((if t256 = true then (if ((t101 == 5) == (a1 != 894847314)) = true then (if t154 = 10 then (if t192 = 2 then rivetlaw10_FileWords.j1 (t230 == 2) else rivetlaw10_FileWords.j1 false) else rivetlaw10_FileWords.j1 false) else rivetlaw10_FileWords.j1 false) else rivetlaw10_FileWords.j1 false))) else rivetlaw10_FileWords.j1 false) else rivetlaw10_FileWords.j1 false))))))))))) else none))))))) else none))))))) else none)))))) else none)))
set_option maxRecDepth 100000 in
set_option maxHeartbeats 4000000 in
theorem rivetlaw10_FileWords.calls (A0 : Option Addr) (c0 : Nat) (l0 : List Int) (a1 : Int) (a2 : Int) (r : Bool) (w0 : World) (hr0 : Rd w0 (eI .u32) A0 c0 l0) (H : rivetlaw10_FileWords l0 a1 a2 = some r) :
    Calls Tryd.prog 12 #[.slice A0 l0.length c0, .int .u32 a1, .int .u32 a2] w0 fun e w' => e = .returned (.bool r) ∧ St [] w0 w' [] := by
 have hw : St [] w0 w0 [] := St.nil w0
 unfold rivetlaw10_FileWords at H
 refine go_fn Tryd.func12 rfl Tryd.ntmps12 ?_; intro a hs
 refine go_sp [] [] hs ?_; clear hs; intro a hs
 refine go_sk fun K2 hK2 => ?_
 obtain ⟨t4, hx5, H⟩ := bind_some H
 refine go_call hs (by rfl) (rivetlaw10_shown.calls t4 _ hx5) ?_
 rintro e wd6 ⟨rfl, hw7⟩
 refine ⟨_, rfl, ?_⟩
 replace hw := hw.call hw7
 clear hs; intro a hs
 refine go_pvs 2 [23] [(7, .bool t4)] hs ?_; clear hs; intro a hs
 refine go_end (hK2 _ _ ?_)
 refine go_sk fun K8 hK8 => ?_
 refine go_pvs 4 [0] [(24, .slice A0 l0.length c0), (27, .int .i64 (mnn (l0.length : Int) 30))] hs ?_; clear hs; intro a hs
 obtain ⟨hp9, H⟩ := ite_only H
 obtain ⟨Aa10, cc11, hx12, hc13⟩ := c_hi (P := Tryd.prog) (ty := 22) (E := (eI .u32)) (T := 37) (t := 22) (x := (Operand.tmp 24)) (y := (Operand.tmp 27)) (k := .i64) hs (by kernel_rfl) (by kernel_rfl) (hr0.old hw) (by kernel_rfl) (by kernel_rfl) hp9.1 hp9.2
 refine go_run hs (by rfl) hx12 [24, 27] ?_; clear hs; intro a hs
 refine go_pvs 6 [28] [(8, .slice Aa10 (l0.take (mnn (l0.length : Int) 30 : Int).toNat).length cc11)] hs ?_; clear hs; intro a hs
 refine go_end (hK8 _ _ ?_)
 refine go_sp [] [(9, .int .u32 (wu32 ((l0.take (mnn (l0.length : Int) 30 : Int).toNat).length : Int)))] hs ?_; clear hs; intro a hs
 obtain ⟨y16, hy16, H⟩ := nm_some H
 replace hs : Slots a 113 [(1, .int .u32 a1), (2, .int .u32 a2), (7, .bool t4), (8, .slice Aa10 (l0.take (mnn (l0.length : Int) 30 : Int).toNat).length cc11), (9, .int .u32 y16)] := by rw [hy16]; exact hs.kx
 refine go_sk fun K17 hK17 => ?_
 refine go_pvs 1 [] [(32, .int .u32 y16)] hs ?_; clear hs; intro a hs
 obtain ⟨Aa18, cc19, wd20, hx21, hw⟩ := n_lit (P := Tryd.prog) (t := 22) (ty := 22) (T := 37) (len := 4) (parts := #[(0, (Operand.const (Value.int IntKind.u32 894847314))), (1, (Operand.tmp 32)), (2, (Operand.const (Value.int IntKind.u32 0))), (3, (Operand.const (Value.int IntKind.u32 0)))]) (z := .int .u32 0) (bytes := 4) (cells := #[.int .u32 894847314, .int .u32 y16, .int .u32 0, .int .u32 0]) hs hw (eI .u32) ([894847314, y16, 0, 0] : List Int) (by kernel_rfl) (by kernel_rfl) (by kernel_rfl) (by kernel_rfl) (by kernel_rfl) (by kernel_rfl) (by kernel_rfl)
 refine go_run hs (by rfl) hx21 [32] ?_; clear hs; intro a hs
 obtain ⟨t24, hx25, H⟩ := bind_some H
 refine go_call hs (by rfl) (le_Put.calls Aa18 cc19 ([894847314, y16, 0, 0] : List Int) t24 _ (Rd.of_own (hw.up 0)) hx25) ?_
 rintro e wd28 ⟨Aa26, cc27, rfl, hw29⟩
 refine ⟨_, rfl, ?_⟩
 replace hw := hw.call hw29
 clear hs; intro a hs; replace hs := hs.rms [33]
 refine go_pvs 4 [] [(35, .slice Aa10 (l0.take (mnn (l0.length : Int) 30 : Int).toNat).length cc11)] hs ?_; clear hs; intro a hs
 obtain ⟨t32, hx33, H⟩ := bind_some H
 refine go_call hs (by rfl) (le_Put.calls Aa10 cc11 (l0.take (mnn (l0.length : Int) 30 : Int).toNat) t32 _ (hc13 _ (hr0.old hw)) hx33) ?_
 rintro e wd36 ⟨Aa34, cc35, rfl, hw37⟩
 refine ⟨_, rfl, ?_⟩
 replace hw := hw.call hw37
 clear hs; intro a hs; replace hs := hs.rms [35]
 obtain ⟨hp39, H⟩ := ite_only H
 have hsrc44 : Src Tryd.prog (eI .u8).sz 32 (.slice Aa34 t32.length cc35) t32.length (t32.flatMap (eI .u8).enc) _ := (Src.of_rd (E := (eI .u8)) (e' := 5) (by kernel_rfl) (Rd.of_own (hw.up 0)))
 replace hw := hw.up 1
 obtain ⟨Aa40, cc41, wd42, hx43, hw⟩ := x_append (P := Tryd.prog) (t := 32) (tx := 32) (ty := 32) (x := (Operand.tmp 34)) (y := (Operand.tmp 36)) (z := .int .u8 0) (bytes := 1) (l2 := t32) hs hw (by kernel_rfl) (by kernel_rfl) (by kernel_rfl) (by kernel_rfl) (by kernel_rfl) hsrc44 (by omega) (by omega)
 refine go_run hs (by rfl) hx43 [34, 36] ?_; clear hs; intro a hs
 refine go_pvs 7 [37] [(10, .slice Aa40 (t24 ++ t32).length cc41)] hs ?_; clear hs; intro a hs
 refine go_end (hK17 _ _ ?_)
 refine go_sk fun K45 hK45 => ?_
 refine go_pvs 1 [10] [(39, .slice Aa40 (t24 ++ t32).length cc41)] hs ?_; clear hs; intro a hs
 obtain ⟨⟨t47, t48⟩, hx49, H⟩ := bind_some H
 refine go_call hs (by rfl) (file_Take.calls Aa40 cc41 (t24 ++ t32) (t47, t48) _ (Rd.of_own (hw.up 0)) hx49) ?_
 rintro e wd56 ⟨Aa50, cc51, Aa52, cc53, Aa54, cc55, rfl, hw57⟩
 refine ⟨_, rfl, ?_⟩
 replace hw := hw.call hw57
 clear hs; intro a hs; replace hs := hs.rms [39]
 refine go_pvs 5 [40] [(41, .agg #[.slice Aa50 t47.Words.length cc51, .slice Aa52 t47.Sites.length cc53, .slice Aa54 t47.Syms.length cc55]), (42, .int .i64 t48)] hs ?_; clear hs; intro a hs
 obtain ⟨g61, wd62, hx63, hw⟩ := x_allocc (P := Tryd.prog) (elem := 26) (ty := 0) (z := .agg #[.slice none 0 0, .slice none 0 0, .slice none 0 0]) (cs := [.slice none 0 0, .slice none 0 0, .slice none 0 0]) hs hw (by kernel_rfl) (by kernel_rfl)
 refine go_run hs (by rfl) hx63 [] ?_; clear hs; intro a hs
 replace hw := St.own_nil hw 37 (eI .u32)
 replace hw := St.own_nil hw 3 (eI .i64)
 replace hw := St.own_nil hw 39 eSapi_Sym
 replace hw : St [] w0 wd62 [own 39 eSapi_Sym none 0 ([] : List Sapi_Sym), own 3 (eI .i64) none 0 ([] : List Int), own 37 (eI .u32) none 0 ([] : List Int), box g61 26 [.slice none ([] : List Int).length 0, .slice none ([] : List Int).length 0, .slice none ([] : List Sapi_Sym).length 0], own 37 (eI .u32) Aa50 cc51 t47.Words, own 3 (eI .i64) Aa52 cc53 t47.Sites, own 39 eSapi_Sym Aa54 cc55 t47.Syms, own 5 (eI .u8) Aa40 cc41 (t24 ++ t32), own 5 (eI .u8) Aa34 cc35 t32, own 37 (eI .u32) Aa18 cc19 ([894847314, y16, 0, 0] : List Int)] := hw
 replace hw := hw.up 3
 obtain ⟨wd68, hx69, hw⟩ := x_bput (P := Tryd.prog) (ty := 0) (t := 26) (y := (Operand.tmp 11)) (z := (Operand.tmp 41)) (o := 0) (p := (⟨g61, 0, none⟩ : Addr)) (v := .agg #[.slice Aa50 t47.Words.length cc51, .slice Aa52 t47.Sites.length cc53, .slice Aa54 t47.Syms.length cc55]) (vs := [.slice Aa50 t47.Words.length cc51, .slice Aa52 t47.Sites.length cc53, .slice Aa54 t47.Syms.length cc55]) (cs' := [.slice Aa50 t47.Words.length cc51, .slice Aa52 t47.Sites.length cc53, .slice Aa54 t47.Syms.length cc55]) hs hw (by kernel_rfl) rfl (by kernel_rfl) rfl (by kernel_rfl) (by kernel_rfl) (by simp [Value.oneCell']) rfl
 refine go_unit hs (by rfl) hx69 [41] ?_; clear hs; intro a hs
 refine go_pvs 8 [42] [(12, .int .i64 t48)] hs ?_; clear hs; intro a hs
 refine go_end (hK45 _ _ ?_)
 refine go_sk fun K70 hK70 => ?_
 refine go_pvs 2 [] [(43, .int .u32 a1), (44, .int .u32 y16)] hs ?_; clear hs; intro a hs
 obtain ⟨Aa71, cc72, wd73, hx74, hw⟩ := n_lit (P := Tryd.prog) (t := 22) (ty := 22) (T := 37) (len := 4) (parts := #[(0, (Operand.tmp 43)), (1, (Operand.tmp 44)), (2, (Operand.const (Value.int IntKind.u32 0))), (3, (Operand.const (Value.int IntKind.u32 0)))]) (z := .int .u32 0) (bytes := 4) (cells := #[.int .u32 a1, .int .u32 y16, .int .u32 0, .int .u32 0]) hs hw (eI .u32) ([a1, y16, 0, 0] : List Int) (by kernel_rfl) (by kernel_rfl) (by kernel_rfl) (by kernel_rfl) (by kernel_rfl) (by kernel_rfl) (by kernel_rfl)
 refine go_run hs (by rfl) hx74 [43, 44] ?_; clear hs; intro a hs
 obtain ⟨t77, hx78, H⟩ := bind_some H
 refine go_call hs (by rfl) (le_Put.calls Aa71 cc72 ([a1, y16, 0, 0] : List Int) t77 _ (Rd.of_own (hw.up 0)) hx78) ?_
 rintro e wd81 ⟨Aa79, cc80, rfl, hw82⟩
 refine ⟨_, rfl, ?_⟩
 replace hw := hw.call hw82
 clear hs; intro a hs; replace hs := hs.rms [45]
 refine go_pvs 5 [] [(47, .slice Aa10 (l0.take (mnn (l0.length : Int) 30 : Int).toNat).length cc11)] hs ?_; clear hs; intro a hs
 obtain ⟨t85, hx86, H⟩ := bind_some H
 refine go_call hs (by rfl) (le_Put.calls Aa10 cc11 (l0.take (mnn (l0.length : Int) 30 : Int).toNat) t85 _ (hc13 _ (hr0.old hw)) hx86) ?_
 rintro e wd89 ⟨Aa87, cc88, rfl, hw90⟩
 refine ⟨_, rfl, ?_⟩
 replace hw := hw.call hw90
 clear hs; intro a hs; replace hs := hs.rms [47]
 obtain ⟨hp92, H⟩ := ite_only H
 have hsrc97 : Src Tryd.prog (eI .u8).sz 32 (.slice Aa87 t85.length cc88) t85.length (t85.flatMap (eI .u8).enc) _ := (Src.of_rd (E := (eI .u8)) (e' := 5) (by kernel_rfl) (Rd.of_own (hw.up 0)))
 replace hw := hw.up 1
 obtain ⟨Aa93, cc94, wd95, hx96, hw⟩ := x_append (P := Tryd.prog) (t := 32) (tx := 32) (ty := 32) (x := (Operand.tmp 46)) (y := (Operand.tmp 48)) (z := .int .u8 0) (bytes := 1) (l2 := t85) hs hw (by kernel_rfl) (by kernel_rfl) (by kernel_rfl) (by kernel_rfl) (by kernel_rfl) hsrc97 (by omega) (by omega)
 refine go_run hs (by rfl) hx96 [46, 48] ?_; clear hs; intro a hs
 refine go_pvs 8 [49] [(13, .slice Aa93 (t77 ++ t85).length cc94)] hs ?_; clear hs; intro a hs
 refine go_end (hK70 _ _ ?_)
 refine go_sk fun K98 hK98 => ?_
 refine go_pvs 1 [13] [(51, .slice Aa93 (t77 ++ t85).length cc94)] hs ?_; clear hs; intro a hs
 obtain ⟨⟨t100, t101⟩, hx102, H⟩ := bind_some H
 refine go_call hs (by rfl) (file_Take.calls Aa93 cc94 (t77 ++ t85) (t100, t101) _ (Rd.of_own (hw.up 0)) hx102) ?_
 rintro e wd109 ⟨Aa103, cc104, Aa105, cc106, Aa107, cc108, rfl, hw110⟩
 refine ⟨_, rfl, ?_⟩
 replace hw := hw.call hw110
 clear hs; intro a hs; replace hs := hs.rms [51]
 refine go_pvs 5 [52] [(53, .agg #[.slice Aa103 t100.Words.length cc104, .slice Aa105 t100.Sites.length cc106, .slice Aa107 t100.Syms.length cc108]), (54, .int .i64 t101)] hs ?_; clear hs; intro a hs
 obtain ⟨g114, wd115, hx116, hw⟩ := x_allocc (P := Tryd.prog) (elem := 26) (ty := 0) (z := .agg #[.slice none 0 0, .slice none 0 0, .slice none 0 0]) (cs := [.slice none 0 0, .slice none 0 0, .slice none 0 0]) hs hw (by kernel_rfl) (by kernel_rfl)
 refine go_run hs (by rfl) hx116 [] ?_; clear hs; intro a hs
 replace hw := St.own_nil hw 37 (eI .u32)
 replace hw := St.own_nil hw 3 (eI .i64)
 replace hw := St.own_nil hw 39 eSapi_Sym
 replace hw : St [] w0 wd115 [own 39 eSapi_Sym none 0 ([] : List Sapi_Sym), own 3 (eI .i64) none 0 ([] : List Int), own 37 (eI .u32) none 0 ([] : List Int), box g114 26 [.slice none ([] : List Int).length 0, .slice none ([] : List Int).length 0, .slice none ([] : List Sapi_Sym).length 0], own 37 (eI .u32) Aa103 cc104 t100.Words, own 3 (eI .i64) Aa105 cc106 t100.Sites, own 39 eSapi_Sym Aa107 cc108 t100.Syms, own 5 (eI .u8) Aa93 cc94 (t77 ++ t85), own 5 (eI .u8) Aa87 cc88 t85, own 37 (eI .u32) Aa71 cc72 ([a1, y16, 0, 0] : List Int), box g61 26 [.slice Aa50 t47.Words.length cc51, .slice Aa52 t47.Sites.length cc53, .slice Aa54 t47.Syms.length cc55], own 39 eSapi_Sym none 0 ([] : List Sapi_Sym), own 3 (eI .i64) none 0 ([] : List Int), own 37 (eI .u32) none 0 ([] : List Int), own 37 (eI .u32) Aa50 cc51 t47.Words, own 3 (eI .i64) Aa52 cc53 t47.Sites, own 39 eSapi_Sym Aa54 cc55 t47.Syms, own 5 (eI .u8) Aa40 cc41 (t24 ++ t32), own 5 (eI .u8) Aa34 cc35 t32, own 37 (eI .u32) Aa18 cc19 ([894847314, y16, 0, 0] : List Int)] := hw
 replace hw := hw.up 3
 obtain ⟨wd121, hx122, hw⟩ := x_bput (P := Tryd.prog) (ty := 0) (t := 26) (y := (Operand.tmp 14)) (z := (Operand.tmp 53)) (o := 0) (p := (⟨g114, 0, none⟩ : Addr)) (v := .agg #[.slice Aa103 t100.Words.length cc104, .slice Aa105 t100.Sites.length cc106, .slice Aa107 t100.Syms.length cc108]) (vs := [.slice Aa103 t100.Words.length cc104, .slice Aa105 t100.Sites.length cc106, .slice Aa107 t100.Syms.length cc108]) (cs' := [.slice Aa103 t100.Words.length cc104, .slice Aa105 t100.Sites.length cc106, .slice Aa107 t100.Syms.length cc108]) hs hw (by kernel_rfl) rfl (by kernel_rfl) rfl (by kernel_rfl) (by kernel_rfl) (by simp [Value.oneCell']) rfl
 refine go_unit hs (by rfl) hx122 [14, 53] ?_; clear hs; intro a hs
 replace hs : Slots a 113 [(1, .int .u32 a1), (2, .int .u32 a2), (7, .bool t4), (8, .slice Aa10 (l0.take (mnn (l0.length : Int) 30 : Int).toNat).length cc11), (9, .int .u32 y16), (11, .pointer (some (⟨g61, 0, none⟩ : Addr))), (12, .int .i64 t48), (54, .int .i64 t101)] := hs.kx
 refine go_pvs 8 [54] [(15, .int .i64 t101)] hs ?_; clear hs; intro a hs
 refine go_end (hK98 _ _ ?_)
 refine go_sk fun K123 hK123 => ?_
 refine go_pvs 6 [2, 9] [(55, .int .u32 y16), (60, .int .u32 (wu32 ((wu32 (y16 + 1)) + (a2.tmod 1000))))] hs ?_; clear hs; intro a hs
 obtain ⟨Aa124, cc125, wd126, hx127, hw⟩ := n_lit (P := Tryd.prog) (t := 22) (ty := 22) (T := 37) (len := 4) (parts := #[(0, (Operand.const (Value.int IntKind.u32 894847314))), (1, (Operand.tmp 55)), (2, (Operand.tmp 60)), (3, (Operand.const (Value.int IntKind.u32 0)))]) (z := .int .u32 0) (bytes := 4) (cells := #[.int .u32 894847314, .int .u32 y16, .int .u32 (wu32 ((wu32 (y16 + 1)) + (a2.tmod 1000))), .int .u32 0]) hs hw (eI .u32) ([894847314, y16, wu32 ((wu32 (y16 + 1)) + (a2.tmod 1000)), 0] : List Int) (by kernel_rfl) (by kernel_rfl) (by kernel_rfl) (by kernel_rfl) (by kernel_rfl) (by kernel_rfl) (by kernel_rfl)
 refine go_run hs (by rfl) hx127 [55, 60] ?_; clear hs; intro a hs
 obtain ⟨t130, hx131, H⟩ := bind_some H
 refine go_call hs (by rfl) (le_Put.calls Aa124 cc125 ([894847314, y16, wu32 ((wu32 (y16 + 1)) + (a2.tmod 1000)), 0] : List Int) t130 _ (Rd.of_own (hw.up 0)) hx131) ?_
 rintro e wd134 ⟨Aa132, cc133, rfl, hw135⟩
 refine ⟨_, rfl, ?_⟩
 replace hw := hw.call hw135
 clear hs; intro a hs; replace hs := hs.rms [61]
 refine go_pvs 9 [] [(63, .slice Aa10 (l0.take (mnn (l0.length : Int) 30 : Int).toNat).length cc11)] hs ?_; clear hs; intro a hs
 obtain ⟨t138, hx139, H⟩ := bind_some H
 refine go_call hs (by rfl) (le_Put.calls Aa10 cc11 (l0.take (mnn (l0.length : Int) 30 : Int).toNat) t138 _ (hc13 _ (hr0.old hw)) hx139) ?_
 rintro e wd142 ⟨Aa140, cc141, rfl, hw143⟩
 refine ⟨_, rfl, ?_⟩
 replace hw := hw.call hw143
 clear hs; intro a hs; replace hs := hs.rms [63]
 obtain ⟨hp145, H⟩ := ite_only H
 have hsrc150 : Src Tryd.prog (eI .u8).sz 32 (.slice Aa140 t138.length cc141) t138.length (t138.flatMap (eI .u8).enc) _ := (Src.of_rd (E := (eI .u8)) (e' := 5) (by kernel_rfl) (Rd.of_own (hw.up 0)))
 replace hw := hw.up 1
 obtain ⟨Aa146, cc147, wd148, hx149, hw⟩ := x_append (P := Tryd.prog) (t := 32) (tx := 32) (ty := 32) (x := (Operand.tmp 62)) (y := (Operand.tmp 64)) (z := .int .u8 0) (bytes := 1) (l2 := t138) hs hw (by kernel_rfl) (by kernel_rfl) (by kernel_rfl) (by kernel_rfl) (by kernel_rfl) hsrc150 (by omega) (by omega)
 refine go_run hs (by rfl) hx149 [62, 64] ?_; clear hs; intro a hs
 refine go_pvs 12 [65] [(16, .slice Aa146 (t130 ++ t138).length cc147)] hs ?_; clear hs; intro a hs
 refine go_end (hK123 _ _ ?_)
 refine go_sk fun K151 hK151 => ?_
 refine go_pvs 1 [16] [(67, .slice Aa146 (t130 ++ t138).length cc147)] hs ?_; clear hs; intro a hs
 obtain ⟨⟨t153, t154⟩, hx155, H⟩ := bind_some H
 refine go_call hs (by rfl) (file_Take.calls Aa146 cc147 (t130 ++ t138) (t153, t154) _ (Rd.of_own (hw.up 0)) hx155) ?_
 rintro e wd162 ⟨Aa156, cc157, Aa158, cc159, Aa160, cc161, rfl, hw163⟩
 refine ⟨_, rfl, ?_⟩
 replace hw := hw.call hw163
 clear hs; intro a hs; replace hs := hs.rms [67]
 refine go_pvs 5 [68] [(69, .agg #[.slice Aa156 t153.Words.length cc157, .slice Aa158 t153.Sites.length cc159, .slice Aa160 t153.Syms.length cc161]), (70, .int .i64 t154)] hs ?_; clear hs; intro a hs
 obtain ⟨g167, wd168, hx169, hw⟩ := x_allocc (P := Tryd.prog) (elem := 26) (ty := 0) (z := .agg #[.slice none 0 0, .slice none 0 0, .slice none 0 0]) (cs := [.slice none 0 0, .slice none 0 0, .slice none 0 0]) hs hw (by kernel_rfl) (by kernel_rfl)
 refine go_run hs (by rfl) hx169 [] ?_; clear hs; intro a hs
 replace hw := St.own_nil hw 37 (eI .u32)
 replace hw := St.own_nil hw 3 (eI .i64)
 replace hw := St.own_nil hw 39 eSapi_Sym
 replace hw : St [] w0 wd168 [own 39 eSapi_Sym none 0 ([] : List Sapi_Sym), own 3 (eI .i64) none 0 ([] : List Int), own 37 (eI .u32) none 0 ([] : List Int), box g167 26 [.slice none ([] : List Int).length 0, .slice none ([] : List Int).length 0, .slice none ([] : List Sapi_Sym).length 0], own 37 (eI .u32) Aa156 cc157 t153.Words, own 3 (eI .i64) Aa158 cc159 t153.Sites, own 39 eSapi_Sym Aa160 cc161 t153.Syms, own 5 (eI .u8) Aa146 cc147 (t130 ++ t138), own 5 (eI .u8) Aa140 cc141 t138, own 37 (eI .u32) Aa124 cc125 ([894847314, y16, wu32 ((wu32 (y16 + 1)) + (a2.tmod 1000)), 0] : List Int), box g114 26 [.slice Aa103 t100.Words.length cc104, .slice Aa105 t100.Sites.length cc106, .slice Aa107 t100.Syms.length cc108], own 39 eSapi_Sym none 0 ([] : List Sapi_Sym), own 3 (eI .i64) none 0 ([] : List Int), own 37 (eI .u32) none 0 ([] : List Int), own 37 (eI .u32) Aa103 cc104 t100.Words, own 3 (eI .i64) Aa105 cc106 t100.Sites, own 39 eSapi_Sym Aa107 cc108 t100.Syms, own 5 (eI .u8) Aa93 cc94 (t77 ++ t85), own 5 (eI .u8) Aa87 cc88 t85, own 37 (eI .u32) Aa71 cc72 ([a1, y16, 0, 0] : List Int), box g61 26 [.slice Aa50 t47.Words.length cc51, .slice Aa52 t47.Sites.length cc53, .slice Aa54 t47.Syms.length cc55], own 39 eSapi_Sym none 0 ([] : List Sapi_Sym), own 3 (eI .i64) none 0 ([] : List Int), own 37 (eI .u32) none 0 ([] : List Int), own 37 (eI .u32) Aa50 cc51 t47.Words, own 3 (eI .i64) Aa52 cc53 t47.Sites, own 39 eSapi_Sym Aa54 cc55 t47.Syms, own 5 (eI .u8) Aa40 cc41 (t24 ++ t32), own 5 (eI .u8) Aa34 cc35 t32, own 37 (eI .u32) Aa18 cc19 ([894847314, y16, 0, 0] : List Int)] := hw
 replace hw := hw.up 3
 obtain ⟨wd174, hx175, hw⟩ := x_bput (P := Tryd.prog) (ty := 0) (t := 26) (y := (Operand.tmp 17)) (z := (Operand.tmp 69)) (o := 0) (p := (⟨g167, 0, none⟩ : Addr)) (v := .agg #[.slice Aa156 t153.Words.length cc157, .slice Aa158 t153.Sites.length cc159, .slice Aa160 t153.Syms.length cc161]) (vs := [.slice Aa156 t153.Words.length cc157, .slice Aa158 t153.Sites.length cc159, .slice Aa160 t153.Syms.length cc161]) (cs' := [.slice Aa156 t153.Words.length cc157, .slice Aa158 t153.Sites.length cc159, .slice Aa160 t153.Syms.length cc161]) hs hw (by kernel_rfl) rfl (by kernel_rfl) rfl (by kernel_rfl) (by kernel_rfl) (by simp [Value.oneCell']) rfl
 refine go_unit hs (by rfl) hx175 [17, 69] ?_; clear hs; intro a hs
 refine go_pvs 8 [70] [(18, .int .i64 t154)] hs ?_; clear hs; intro a hs
 refine go_end (hK151 _ _ ?_)
 refine go_sk fun K176 hK176 => ?_
 obtain ⟨Aa177, cc178, wd179, hx180, hw⟩ := n_lit (P := Tryd.prog) (t := 22) (ty := 22) (T := 37) (len := 4) (parts := #[(0, (Operand.const (Value.int IntKind.u32 894847314))), (1, (Operand.const (Value.int IntKind.u32 1025))), (2, (Operand.const (Value.int IntKind.u32 0))), (3, (Operand.const (Value.int IntKind.u32 0)))]) (z := .int .u32 0) (bytes := 4) (cells := #[.int .u32 894847314, .int .u32 1025, .int .u32 0, .int .u32 0]) hs hw (eI .u32) ([894847314, 1025, 0, 0] : List Int) (by kernel_rfl) (by kernel_rfl) (by kernel_rfl) (by kernel_rfl) (by kernel_rfl) (by kernel_rfl) (by kernel_rfl)
 refine go_run hs (by rfl) hx180 [] ?_; clear hs; intro a hs
 obtain ⟨t183, hx184, H⟩ := bind_some H
 refine go_call hs (by rfl) (le_Put.calls Aa177 cc178 ([894847314, 1025, 0, 0] : List Int) t183 _ (Rd.of_own (hw.up 0)) hx184) ?_
 rintro e wd187 ⟨Aa185, cc186, rfl, hw188⟩
 refine ⟨_, rfl, ?_⟩
 replace hw := hw.call hw188
 clear hs; intro a hs; replace hs := hs.rms [72]
 obtain ⟨⟨t191, t192⟩, hx193, H⟩ := bind_some H
 refine go_call hs (by rfl) (file_Take.calls Aa185 cc186 t183 (t191, t192) _ (Rd.of_own (hw.up 0)) hx193) ?_
 rintro e wd200 ⟨Aa194, cc195, Aa196, cc197, Aa198, cc199, rfl, hw201⟩
 refine ⟨_, rfl, ?_⟩
 replace hw := hw.call hw201
 clear hs; intro a hs; replace hs := hs.rms [73]
 refine go_pvs 6 [74] [(75, .agg #[.slice Aa194 t191.Words.length cc195, .slice Aa196 t191.Sites.length cc197, .slice Aa198 t191.Syms.length cc199]), (76, .int .i64 t192)] hs ?_; clear hs; intro a hs
 obtain ⟨g205, wd206, hx207, hw⟩ := x_allocc (P := Tryd.prog) (elem := 26) (ty := 0) (z := .agg #[.slice none 0 0, .slice none 0 0, .slice none 0 0]) (cs := [.slice none 0 0, .slice none 0 0, .slice none 0 0]) hs hw (by kernel_rfl) (by kernel_rfl)
 refine go_run hs (by rfl) hx207 [] ?_; clear hs; intro a hs
 replace hw := St.own_nil hw 37 (eI .u32)
 replace hw := St.own_nil hw 3 (eI .i64)
 replace hw := St.own_nil hw 39 eSapi_Sym
 replace hw : St [] w0 wd206 [own 39 eSapi_Sym none 0 ([] : List Sapi_Sym), own 3 (eI .i64) none 0 ([] : List Int), own 37 (eI .u32) none 0 ([] : List Int), box g205 26 [.slice none ([] : List Int).length 0, .slice none ([] : List Int).length 0, .slice none ([] : List Sapi_Sym).length 0], own 37 (eI .u32) Aa194 cc195 t191.Words, own 3 (eI .i64) Aa196 cc197 t191.Sites, own 39 eSapi_Sym Aa198 cc199 t191.Syms, own 5 (eI .u8) Aa185 cc186 t183, own 37 (eI .u32) Aa177 cc178 ([894847314, 1025, 0, 0] : List Int), box g167 26 [.slice Aa156 t153.Words.length cc157, .slice Aa158 t153.Sites.length cc159, .slice Aa160 t153.Syms.length cc161], own 39 eSapi_Sym none 0 ([] : List Sapi_Sym), own 3 (eI .i64) none 0 ([] : List Int), own 37 (eI .u32) none 0 ([] : List Int), own 37 (eI .u32) Aa156 cc157 t153.Words, own 3 (eI .i64) Aa158 cc159 t153.Sites, own 39 eSapi_Sym Aa160 cc161 t153.Syms, own 5 (eI .u8) Aa146 cc147 (t130 ++ t138), own 5 (eI .u8) Aa140 cc141 t138, own 37 (eI .u32) Aa124 cc125 ([894847314, y16, wu32 ((wu32 (y16 + 1)) + (a2.tmod 1000)), 0] : List Int), box g114 26 [.slice Aa103 t100.Words.length cc104, .slice Aa105 t100.Sites.length cc106, .slice Aa107 t100.Syms.length cc108], own 39 eSapi_Sym none 0 ([] : List Sapi_Sym), own 3 (eI .i64) none 0 ([] : List Int), own 37 (eI .u32) none 0 ([] : List Int), own 37 (eI .u32) Aa103 cc104 t100.Words, own 3 (eI .i64) Aa105 cc106 t100.Sites, own 39 eSapi_Sym Aa107 cc108 t100.Syms, own 5 (eI .u8) Aa93 cc94 (t77 ++ t85), own 5 (eI .u8) Aa87 cc88 t85, own 37 (eI .u32) Aa71 cc72 ([a1, y16, 0, 0] : List Int), box g61 26 [.slice Aa50 t47.Words.length cc51, .slice Aa52 t47.Sites.length cc53, .slice Aa54 t47.Syms.length cc55], own 39 eSapi_Sym none 0 ([] : List Sapi_Sym), own 3 (eI .i64) none 0 ([] : List Int), own 37 (eI .u32) none 0 ([] : List Int), own 37 (eI .u32) Aa50 cc51 t47.Words, own 3 (eI .i64) Aa52 cc53 t47.Sites, own 39 eSapi_Sym Aa54 cc55 t47.Syms, own 5 (eI .u8) Aa40 cc41 (t24 ++ t32), own 5 (eI .u8) Aa34 cc35 t32, own 37 (eI .u32) Aa18 cc19 ([894847314, y16, 0, 0] : List Int)] := hw
 replace hw := hw.up 3
 obtain ⟨wd212, hx213, hw⟩ := x_bput (P := Tryd.prog) (ty := 0) (t := 26) (y := (Operand.tmp 19)) (z := (Operand.tmp 75)) (o := 0) (p := (⟨g205, 0, none⟩ : Addr)) (v := .agg #[.slice Aa194 t191.Words.length cc195, .slice Aa196 t191.Sites.length cc197, .slice Aa198 t191.Syms.length cc199]) (vs := [.slice Aa194 t191.Words.length cc195, .slice Aa196 t191.Sites.length cc197, .slice Aa198 t191.Syms.length cc199]) (cs' := [.slice Aa194 t191.Words.length cc195, .slice Aa196 t191.Sites.length cc197, .slice Aa198 t191.Syms.length cc199]) hs hw (by kernel_rfl) rfl (by kernel_rfl) rfl (by kernel_rfl) (by kernel_rfl) (by simp [Value.oneCell']) rfl
 refine go_unit hs (by rfl) hx213 [19, 75] ?_; clear hs; intro a hs
 refine go_pvs 9 [76] [(20, .int .i64 t192)] hs ?_; clear hs; intro a hs
 refine go_end (hK176 _ _ ?_)
 refine go_sk fun K214 hK214 => ?_
 obtain ⟨Aa215, cc216, wd217, hx218, hw⟩ := n_lit (P := Tryd.prog) (t := 22) (ty := 22) (T := 37) (len := 4) (parts := #[(0, (Operand.const (Value.int IntKind.u32 894847314))), (1, (Operand.const (Value.int IntKind.u32 0))), (2, (Operand.const (Value.int IntKind.u32 0))), (3, (Operand.const (Value.int IntKind.u32 65)))]) (z := .int .u32 0) (bytes := 4) (cells := #[.int .u32 894847314, .int .u32 0, .int .u32 0, .int .u32 65]) hs hw (eI .u32) ([894847314, 0, 0, 65] : List Int) (by kernel_rfl) (by kernel_rfl) (by kernel_rfl) (by kernel_rfl) (by kernel_rfl) (by kernel_rfl) (by kernel_rfl)
 refine go_run hs (by rfl) hx218 [] ?_; clear hs; intro a hs
 obtain ⟨t221, hx222, H⟩ := bind_some H
 refine go_call hs (by rfl) (le_Put.calls Aa215 cc216 ([894847314, 0, 0, 65] : List Int) t221 _ (Rd.of_own (hw.up 0)) hx222) ?_
 rintro e wd225 ⟨Aa223, cc224, rfl, hw226⟩
 refine ⟨_, rfl, ?_⟩
 replace hw := hw.call hw226
 clear hs; intro a hs; replace hs := hs.rms [78]
 obtain ⟨⟨t229, t230⟩, hx231, H⟩ := bind_some H
 refine go_call hs (by rfl) (file_Take.calls Aa223 cc224 t221 (t229, t230) _ (Rd.of_own (hw.up 0)) hx231) ?_
 rintro e wd238 ⟨Aa232, cc233, Aa234, cc235, Aa236, cc237, rfl, hw239⟩
 refine ⟨_, rfl, ?_⟩
 replace hw := hw.call hw239
 clear hs; intro a hs; replace hs := hs.rms [79]
 refine go_pvs 6 [80] [(81, .agg #[.slice Aa232 t229.Words.length cc233, .slice Aa234 t229.Sites.length cc235, .slice Aa236 t229.Syms.length cc237]), (82, .int .i64 t230)] hs ?_; clear hs; intro a hs
 replace hs : Slots a 113 [(1, .int .u32 a1), (7, .bool t4), (8, .slice Aa10 (l0.take (mnn (l0.length : Int) 30 : Int).toNat).length cc11), (11, .pointer (some (⟨g61, 0, none⟩ : Addr))), (12, .int .i64 t48), (15, .int .i64 t101), (18, .int .i64 t154), (20, .int .i64 t192), (81, .agg #[.slice Aa232 t229.Words.length cc233, .slice Aa234 t229.Sites.length cc235, .slice Aa236 t229.Syms.length cc237]), (82, .int .i64 t230)] := hs.kx
 obtain ⟨g243, wd244, hx245, hw⟩ := x_allocc (P := Tryd.prog) (elem := 26) (ty := 0) (z := .agg #[.slice none 0 0, .slice none 0 0, .slice none 0 0]) (cs := [.slice none 0 0, .slice none 0 0, .slice none 0 0]) hs hw (by kernel_rfl) (by kernel_rfl)
 refine go_run hs (by rfl) hx245 [] ?_; clear hs; intro a hs
 replace hw := St.own_nil hw 37 (eI .u32)
 replace hw := St.own_nil hw 3 (eI .i64)
 replace hw := St.own_nil hw 39 eSapi_Sym
 replace hw : St [] w0 wd244 [own 39 eSapi_Sym none 0 ([] : List Sapi_Sym), own 3 (eI .i64) none 0 ([] : List Int), own 37 (eI .u32) none 0 ([] : List Int), box g243 26 [.slice none ([] : List Int).length 0, .slice none ([] : List Int).length 0, .slice none ([] : List Sapi_Sym).length 0], own 37 (eI .u32) Aa232 cc233 t229.Words, own 3 (eI .i64) Aa234 cc235 t229.Sites, own 39 eSapi_Sym Aa236 cc237 t229.Syms, own 5 (eI .u8) Aa223 cc224 t221, own 37 (eI .u32) Aa215 cc216 ([894847314, 0, 0, 65] : List Int), box g205 26 [.slice Aa194 t191.Words.length cc195, .slice Aa196 t191.Sites.length cc197, .slice Aa198 t191.Syms.length cc199], own 39 eSapi_Sym none 0 ([] : List Sapi_Sym), own 3 (eI .i64) none 0 ([] : List Int), own 37 (eI .u32) none 0 ([] : List Int), own 37 (eI .u32) Aa194 cc195 t191.Words, own 3 (eI .i64) Aa196 cc197 t191.Sites, own 39 eSapi_Sym Aa198 cc199 t191.Syms, own 5 (eI .u8) Aa185 cc186 t183, own 37 (eI .u32) Aa177 cc178 ([894847314, 1025, 0, 0] : List Int), box g167 26 [.slice Aa156 t153.Words.length cc157, .slice Aa158 t153.Sites.length cc159, .slice Aa160 t153.Syms.length cc161], own 39 eSapi_Sym none 0 ([] : List Sapi_Sym), own 3 (eI .i64) none 0 ([] : List Int), own 37 (eI .u32) none 0 ([] : List Int), own 37 (eI .u32) Aa156 cc157 t153.Words, own 3 (eI .i64) Aa158 cc159 t153.Sites, own 39 eSapi_Sym Aa160 cc161 t153.Syms, own 5 (eI .u8) Aa146 cc147 (t130 ++ t138), own 5 (eI .u8) Aa140 cc141 t138, own 37 (eI .u32) Aa124 cc125 ([894847314, y16, wu32 ((wu32 (y16 + 1)) + (a2.tmod 1000)), 0] : List Int), box g114 26 [.slice Aa103 t100.Words.length cc104, .slice Aa105 t100.Sites.length cc106, .slice Aa107 t100.Syms.length cc108], own 39 eSapi_Sym none 0 ([] : List Sapi_Sym), own 3 (eI .i64) none 0 ([] : List Int), own 37 (eI .u32) none 0 ([] : List Int), own 37 (eI .u32) Aa103 cc104 t100.Words, own 3 (eI .i64) Aa105 cc106 t100.Sites, own 39 eSapi_Sym Aa107 cc108 t100.Syms, own 5 (eI .u8) Aa93 cc94 (t77 ++ t85), own 5 (eI .u8) Aa87 cc88 t85, own 37 (eI .u32) Aa71 cc72 ([a1, y16, 0, 0] : List Int), box g61 26 [.slice Aa50 t47.Words.length cc51, .slice Aa52 t47.Sites.length cc53, .slice Aa54 t47.Syms.length cc55], own 39 eSapi_Sym none 0 ([] : List Sapi_Sym), own 3 (eI .i64) none 0 ([] : List Int), own 37 (eI .u32) none 0 ([] : List Int), own 37 (eI .u32) Aa50 cc51 t47.Words, own 3 (eI .i64) Aa52 cc53 t47.Sites, own 39 eSapi_Sym Aa54 cc55 t47.Syms, own 5 (eI .u8) Aa40 cc41 (t24 ++ t32), own 5 (eI .u8) Aa34 cc35 t32, own 37 (eI .u32) Aa18 cc19 ([894847314, y16, 0, 0] : List Int)] := hw
 replace hw := hw.up 3
 obtain ⟨wd250, hx251, hw⟩ := x_bput (P := Tryd.prog) (ty := 0) (t := 26) (y := (Operand.tmp 21)) (z := (Operand.tmp 81)) (o := 0) (p := (⟨g243, 0, none⟩ : Addr)) (v := .agg #[.slice Aa232 t229.Words.length cc233, .slice Aa234 t229.Sites.length cc235, .slice Aa236 t229.Syms.length cc237]) (vs := [.slice Aa232 t229.Words.length cc233, .slice Aa234 t229.Sites.length cc235, .slice Aa236 t229.Syms.length cc237]) (cs' := [.slice Aa232 t229.Words.length cc233, .slice Aa234 t229.Sites.length cc235, .slice Aa236 t229.Syms.length cc237]) hs hw (by kernel_rfl) rfl (by kernel_rfl) rfl (by kernel_rfl) (by kernel_rfl) (by simp [Value.oneCell']) rfl
 refine go_unit hs (by rfl) hx251 [21, 81] ?_; clear hs; intro a hs
 refine go_pvs 9 [82] [(22, .int .i64 t230)] hs ?_; clear hs; intro a hs
 refine go_end (hK214 _ _ ?_)
 refine go_seq_k fun K252 hK252 => ?_
 have hJ1 : ∀ (v264 : Bool) (a : Act) (w : World), Slots a 113 [(6, .bool v264)] → St [] w0 w [box g243 26 [.slice Aa232 t229.Words.length cc233, .slice Aa234 t229.Sites.length cc235, .slice Aa236 t229.Syms.length cc237], own 39 eSapi_Sym none 0 ([] : List Sapi_Sym), own 3 (eI .i64) none 0 ([] : List Int), own 37 (eI .u32) none 0 ([] : List Int), own 37 (eI .u32) Aa232 cc233 t229.Words, own 3 (eI .i64) Aa234 cc235 t229.Sites, own 39 eSapi_Sym Aa236 cc237 t229.Syms, own 5 (eI .u8) Aa223 cc224 t221, own 37 (eI .u32) Aa215 cc216 ([894847314, 0, 0, 65] : List Int), box g205 26 [.slice Aa194 t191.Words.length cc195, .slice Aa196 t191.Sites.length cc197, .slice Aa198 t191.Syms.length cc199], own 39 eSapi_Sym none 0 ([] : List Sapi_Sym), own 3 (eI .i64) none 0 ([] : List Int), own 37 (eI .u32) none 0 ([] : List Int), own 37 (eI .u32) Aa194 cc195 t191.Words, own 3 (eI .i64) Aa196 cc197 t191.Sites, own 39 eSapi_Sym Aa198 cc199 t191.Syms, own 5 (eI .u8) Aa185 cc186 t183, own 37 (eI .u32) Aa177 cc178 ([894847314, 1025, 0, 0] : List Int), box g167 26 [.slice Aa156 t153.Words.length cc157, .slice Aa158 t153.Sites.length cc159, .slice Aa160 t153.Syms.length cc161], own 39 eSapi_Sym none 0 ([] : List Sapi_Sym), own 3 (eI .i64) none 0 ([] : List Int), own 37 (eI .u32) none 0 ([] : List Int), own 37 (eI .u32) Aa156 cc157 t153.Words, own 3 (eI .i64) Aa158 cc159 t153.Sites, own 39 eSapi_Sym Aa160 cc161 t153.Syms, own 5 (eI .u8) Aa146 cc147 (t130 ++ t138), own 5 (eI .u8) Aa140 cc141 t138, own 37 (eI .u32) Aa124 cc125 ([894847314, y16, wu32 ((wu32 (y16 + 1)) + (a2.tmod 1000)), 0] : List Int), box g114 26 [.slice Aa103 t100.Words.length cc104, .slice Aa105 t100.Sites.length cc106, .slice Aa107 t100.Syms.length cc108], own 39 eSapi_Sym none 0 ([] : List Sapi_Sym), own 3 (eI .i64) none 0 ([] : List Int), own 37 (eI .u32) none 0 ([] : List Int), own 37 (eI .u32) Aa103 cc104 t100.Words, own 3 (eI .i64) Aa105 cc106 t100.Sites, own 39 eSapi_Sym Aa107 cc108 t100.Syms, own 5 (eI .u8) Aa93 cc94 (t77 ++ t85), own 5 (eI .u8) Aa87 cc88 t85, own 37 (eI .u32) Aa71 cc72 ([a1, y16, 0, 0] : List Int), box g61 26 [.slice Aa50 t47.Words.length cc51, .slice Aa52 t47.Sites.length cc53, .slice Aa54 t47.Syms.length cc55], own 39 eSapi_Sym none 0 ([] : List Sapi_Sym), own 3 (eI .i64) none 0 ([] : List Int), own 37 (eI .u32) none 0 ([] : List Int), own 37 (eI .u32) Aa50 cc51 t47.Words, own 3 (eI .i64) Aa52 cc53 t47.Sites, own 39 eSapi_Sym Aa54 cc55 t47.Syms, own 5 (eI .u8) Aa40 cc41 (t24 ++ t32), own 5 (eI .u8) Aa34 cc35 t32, own 37 (eI .u32) Aa18 cc19 ([894847314, y16, 0, 0] : List Int)] → rivetlaw10_FileWords.j1 v264 = some r → K252 a w := by
  intro v264 a w hs hw H
  unfold rivetlaw10_FileWords.j1 at H
  refine hK252 _ _ ?_
  refine wp_ret ?_
  obtain rfl := Option.some.inj H
  refine ret1 (t := 6) (v := .bool v264) hs (by kernel_rfl) (by kernel_rfl) ?_
  exact ⟨rfl, hw.only 0⟩
 refine go_region ?_
 refine go_pvs 2 [7] [(84, .bool t4)] hs ?_; clear hs; intro a hs
 cases hb253 : t4
 ·replace H := ite_f H (ff hb253)
  rw [hb253] at hs
  refine go_pvs 31 [1, 8, 11, 12, 15, 18, 20, 22, 84] [(6, .bool false)] hs ?_; clear hs; intro a hs
  refine go_end ?_
  replace hw := hw.up 47
  replace hw := hw.up 47
  replace hw := hw.up 47
  replace hw := hw.up 47
  replace hw := hw.up 47
  replace hw := hw.up 47
  replace hw := hw.up 47
  replace hw := hw.up 47
  replace hw := hw.up 47
  replace hw := hw.up 47
  replace hw := hw.up 47
  replace hw := hw.up 47
  replace hw := hw.up 47
  replace hw := hw.up 47
  replace hw := hw.up 47
  replace hw := hw.up 47
  replace hw := hw.up 47
  replace hw := hw.up 47
  replace hw := hw.up 47
  replace hw := hw.up 47
  replace hw := hw.up 47
  replace hw := hw.up 47
  replace hw := hw.up 47
  replace hw := hw.up 47
  replace hw := hw.up 47
  replace hw := hw.up 47
  replace hw := hw.up 47
  replace hw := hw.up 47
  replace hw := hw.up 47
  replace hw := hw.up 47
  replace hw := hw.up 47
  replace hw := hw.up 47
  replace hw := hw.up 47
  replace hw := hw.up 47
  replace hw := hw.up 47
  replace hw := hw.up 47
  replace hw := hw.up 47
  replace hw := hw.up 47
  replace hw := hw.up 47
  replace hw := hw.up 47
  replace hw := hw.up 47
  replace hw := hw.up 47
  replace hw := hw.up 47
  replace hw := hw.up 47
  replace hw := hw.up 47
  replace hw := hw.up 47
  replace hw := hw.up 47
  replace hw := hw.up 47
  exact hJ1 false _ _ hs.kx hw H
 ·replace H := ite_t H hb253
  rw [hb253] at hs
  refine go_pvs 6 [12, 84] [(88, .bool (t48 == 0))] hs ?_; clear hs; intro a hs
  cases hb254 : (t48 == 0)
  ·replace H := ite_f H (beq_eq_false_iff_ne.1 hb254)
   rw [hb254] at hs
   refine go_pvs 31 [1, 8, 11, 15, 18, 20, 22, 88] [(6, .bool false)] hs ?_; clear hs; intro a hs
   refine go_end ?_
   replace hw := hw.up 47
   replace hw := hw.up 47
   replace hw := hw.up 47
   replace hw := hw.up 47
   replace hw := hw.up 47
   replace hw := hw.up 47
   replace hw := hw.up 47
   replace hw := hw.up 47
   replace hw := hw.up 47
   replace hw := hw.up 47
   replace hw := hw.up 47
   replace hw := hw.up 47
   replace hw := hw.up 47
   replace hw := hw.up 47
   replace hw := hw.up 47
   replace hw := hw.up 47
   replace hw := hw.up 47
   replace hw := hw.up 47
   replace hw := hw.up 47
   replace hw := hw.up 47
   replace hw := hw.up 47
   replace hw := hw.up 47
   replace hw := hw.up 47
   replace hw := hw.up 47
   replace hw := hw.up 47
   replace hw := hw.up 47
   replace hw := hw.up 47
   replace hw := hw.up 47
   replace hw := hw.up 47
   replace hw := hw.up 47
   replace hw := hw.up 47
   replace hw := hw.up 47
   replace hw := hw.up 47
   replace hw := hw.up 47
   replace hw := hw.up 47
   replace hw := hw.up 47
   replace hw := hw.up 47
   replace hw := hw.up 47
   replace hw := hw.up 47
   replace hw := hw.up 47
   replace hw := hw.up 47
   replace hw := hw.up 47
   replace hw := hw.up 47
   replace hw := hw.up 47
   replace hw := hw.up 47
   replace hw := hw.up 47
   replace hw := hw.up 47
   replace hw := hw.up 47
   exact hJ1 false _ _ hs.kx hw H
  ·replace H := ite_t H (beq_iff_eq.1 hb254)
   rw [hb254] at hs
   refine go_run hs (by rfl) (x_blds (g := g61) (o := 0) (p := (⟨g61, 0, none⟩ : Addr)) (vs := [.slice Aa50 t47.Words.length cc51, .slice Aa52 t47.Sites.length cc53, .slice Aa54 t47.Syms.length cc55]) (hw.up 38)) [11] ?_; clear hs; intro a hs
   refine go_pvs 9 [8] [(91, .agg #[.slice Aa10 (l0.take (mnn (l0.length : Int) 30 : Int).toNat).length cc11, .slice none 0 0, .slice none 0 0])] hs ?_; clear hs; intro a hs
   obtain ⟨t256, hx257, H⟩ := bind_some H
   refine go_call hs (by rfl) (object_Same.calls t47 Aa50 cc51 Aa52 cc53 Aa54 cc55 (⟨l0.take (mnn (l0.length : Int) 30 : Int).toNat, ([] : List Int), ([] : List Sapi_Sym)⟩ : Sapi_Obj) Aa10 cc11 none 0 none 0 t256 _ (Rd.of_own (hw.up 42)) (Rd.of_own (hw.up 43)) (Rd.of_own (hw.up 44)) (hc13 _ (hr0.old hw)) (Rd.nil _ _) (Rd.nil _ _) hx257) ?_
   rintro e wd258 ⟨rfl, hw259⟩
   refine ⟨_, rfl, ?_⟩
   replace hw := hw.call hw259
   clear hs; intro a hs; replace hs := hs.rms [89, 91]
   refine go_pvs 12 [88, 92] [(94, .bool t256)] hs ?_; clear hs; intro a hs
   cases hb260 : t256
   ·replace H := ite_f H (ff hb260)
    rw [hb260] at hs
    refine go_pvs 31 [1, 15, 18, 20, 22, 94] [(6, .bool false)] hs ?_; clear hs; intro a hs
    refine go_end ?_
    replace hw := hw.up 47
    replace hw := hw.up 47
    replace hw := hw.up 47
    replace hw := hw.up 47
    replace hw := hw.up 47
    replace hw := hw.up 47
    replace hw := hw.up 47
    replace hw := hw.up 47
    replace hw := hw.up 47
    replace hw := hw.up 47
    replace hw := hw.up 47
    replace hw := hw.up 47
    replace hw := hw.up 47
    replace hw := hw.up 47
    replace hw := hw.up 47
    replace hw := hw.up 47
    replace hw := hw.up 47
    replace hw := hw.up 47
    replace hw := hw.up 47
    replace hw := hw.up 47
    replace hw := hw.up 47
    replace hw := hw.up 47
    replace hw := hw.up 47
    replace hw := hw.up 47
    replace hw := hw.up 47
    replace hw := hw.up 47
    replace hw := hw.up 47
    replace hw := hw.up 47
    replace hw := hw.up 47
    replace hw := hw.up 47
    replace hw := hw.up 47
    replace hw := hw.up 47
    replace hw := hw.up 47
    replace hw := hw.up 47
    replace hw := hw.up 47
    replace hw := hw.up 47
    replace hw := hw.up 47
    replace hw := hw.up 47
    replace hw := hw.up 47
    replace hw := hw.up 47
    replace hw := hw.up 47
    replace hw := hw.up 47
    replace hw := hw.up 47
    replace hw := hw.up 47
    replace hw := hw.up 47
    replace hw := hw.up 47
    replace hw := hw.up 47
    replace hw := hw.up 47
    exact hJ1 false _ _ hs.kx hw H
   ·replace H := ite_t H hb260
    rw [hb260] at hs
    refine go_pvs 19 [1, 15, 94] [(101, .bool ((t101 == 5) == (a1 != 894847314)))] hs ?_; clear hs; intro a hs
    cases hb261 : ((t101 == 5) == (a1 != 894847314))
    ·replace H := ite_f H (ff hb261)
     rw [hb261] at hs
     refine go_pvs 31 [18, 20, 22, 101] [(6, .bool false)] hs ?_; clear hs; intro a hs
     refine go_end ?_
     replace hw := hw.up 47
     replace hw := hw.up 47
     replace hw := hw.up 47
     replace hw := hw.up 47
     replace hw := hw.up 47
     replace hw := hw.up 47
     replace hw := hw.up 47
     replace hw := hw.up 47
     replace hw := hw.up 47
     replace hw := hw.up 47
     replace hw := hw.up 47
     replace hw := hw.up 47
     replace hw := hw.up 47
     replace hw := hw.up 47
     replace hw := hw.up 47
     replace hw := hw.up 47
     replace hw := hw.up 47
     replace hw := hw.up 47
     replace hw := hw.up 47
     replace hw := hw.up 47
     replace hw := hw.up 47
     replace hw := hw.up 47
     replace hw := hw.up 47
     replace hw := hw.up 47
     replace hw := hw.up 47
     replace hw := hw.up 47
     replace hw := hw.up 47
     replace hw := hw.up 47
     replace hw := hw.up 47
     replace hw := hw.up 47
     replace hw := hw.up 47
     replace hw := hw.up 47
     replace hw := hw.up 47
     replace hw := hw.up 47
     replace hw := hw.up 47
     replace hw := hw.up 47
     replace hw := hw.up 47
     replace hw := hw.up 47
     replace hw := hw.up 47
     replace hw := hw.up 47
     replace hw := hw.up 47
     replace hw := hw.up 47
     replace hw := hw.up 47
     replace hw := hw.up 47
     replace hw := hw.up 47
     replace hw := hw.up 47
     replace hw := hw.up 47
     replace hw := hw.up 47
     exact hJ1 false _ _ hs.kx hw H
    ·replace H := ite_t H hb261
     rw [hb261] at hs
     refine go_pvs 23 [18, 101] [(105, .bool (t154 == 10))] hs ?_; clear hs; intro a hs
     cases hb262 : (t154 == 10)
     ·replace H := ite_f H (beq_eq_false_iff_ne.1 hb262)
      rw [hb262] at hs
      refine go_pvs 31 [20, 22, 105] [(6, .bool false)] hs ?_; clear hs; intro a hs
      refine go_end ?_
      replace hw := hw.up 47
      replace hw := hw.up 47
      replace hw := hw.up 47
      replace hw := hw.up 47
      replace hw := hw.up 47
      replace hw := hw.up 47
      replace hw := hw.up 47
      replace hw := hw.up 47
      replace hw := hw.up 47
      replace hw := hw.up 47
      replace hw := hw.up 47
      replace hw := hw.up 47
      replace hw := hw.up 47
      replace hw := hw.up 47
      replace hw := hw.up 47
      replace hw := hw.up 47
      replace hw := hw.up 47
      replace hw := hw.up 47
      replace hw := hw.up 47
      replace hw := hw.up 47
      replace hw := hw.up 47
      replace hw := hw.up 47
      replace hw := hw.up 47
      replace hw := hw.up 47
      replace hw := hw.up 47
      replace hw := hw.up 47
      replace hw := hw.up 47
      replace hw := hw.up 47
      replace hw := hw.up 47
      replace hw := hw.up 47
      replace hw := hw.up 47
      replace hw := hw.up 47
      replace hw := hw.up 47
      replace hw := hw.up 47
      replace hw := hw.up 47
      replace hw := hw.up 47
      replace hw := hw.up 47
      replace hw := hw.up 47
      replace hw := hw.up 47
      replace hw := hw.up 47
      replace hw := hw.up 47
      replace hw := hw.up 47
      replace hw := hw.up 47
      replace hw := hw.up 47
      replace hw := hw.up 47
      replace hw := hw.up 47
      replace hw := hw.up 47
      replace hw := hw.up 47
      exact hJ1 false _ _ hs.kx hw H
     ·replace H := ite_t H (beq_iff_eq.1 hb262)
      rw [hb262] at hs
      refine go_pvs 27 [20, 105] [(109, .bool (t192 == 2))] hs ?_; clear hs; intro a hs
      cases hb263 : (t192 == 2)
      ·replace H := ite_f H (beq_eq_false_iff_ne.1 hb263)
       rw [hb263] at hs
       refine go_pvs 31 [22, 109] [(6, .bool false)] hs ?_; clear hs; intro a hs
       refine go_end ?_
       replace hw := hw.up 47
       replace hw := hw.up 47
       replace hw := hw.up 47
       replace hw := hw.up 47
       replace hw := hw.up 47
       replace hw := hw.up 47
       replace hw := hw.up 47
       replace hw := hw.up 47
       replace hw := hw.up 47
       replace hw := hw.up 47
       replace hw := hw.up 47
       replace hw := hw.up 47
       replace hw := hw.up 47
       replace hw := hw.up 47
       replace hw := hw.up 47
       replace hw := hw.up 47
       replace hw := hw.up 47
       replace hw := hw.up 47
       replace hw := hw.up 47
       replace hw := hw.up 47
       replace hw := hw.up 47
       replace hw := hw.up 47
       replace hw := hw.up 47
       replace hw := hw.up 47
       replace hw := hw.up 47
       replace hw := hw.up 47
       replace hw := hw.up 47
       replace hw := hw.up 47
       replace hw := hw.up 47
       replace hw := hw.up 47
       replace hw := hw.up 47
       replace hw := hw.up 47
       replace hw := hw.up 47
       replace hw := hw.up 47
       replace hw := hw.up 47
       replace hw := hw.up 47
       replace hw := hw.up 47
       replace hw := hw.up 47
       replace hw := hw.up 47
       replace hw := hw.up 47
       replace hw := hw.up 47
       replace hw := hw.up 47
       replace hw := hw.up 47
       replace hw := hw.up 47
       replace hw := hw.up 47
       replace hw := hw.up 47
       replace hw := hw.up 47
       replace hw := hw.up 47
       exact hJ1 false _ _ hs.kx hw H
      ·replace H := ite_t H (beq_iff_eq.1 hb263)
       rw [hb263] at hs
       refine go_pvs 31 [22, 109] [(6, .bool (t230 == 2))] hs ?_; clear hs; intro a hs
       refine go_end ?_
       replace hw := hw.up 47
       replace hw := hw.up 47
       replace hw := hw.up 47
       replace hw := hw.up 47
       replace hw := hw.up 47
       replace hw := hw.up 47
       replace hw := hw.up 47
       replace hw := hw.up 47
       replace hw := hw.up 47
       replace hw := hw.up 47
       replace hw := hw.up 47
       replace hw := hw.up 47
       replace hw := hw.up 47
       replace hw := hw.up 47
       replace hw := hw.up 47
       replace hw := hw.up 47
       replace hw := hw.up 47
       replace hw := hw.up 47
       replace hw := hw.up 47
       replace hw := hw.up 47
       replace hw := hw.up 47
       replace hw := hw.up 47
       replace hw := hw.up 47
       replace hw := hw.up 47
       replace hw := hw.up 47
       replace hw := hw.up 47
       replace hw := hw.up 47
       replace hw := hw.up 47
       replace hw := hw.up 47
       replace hw := hw.up 47
       replace hw := hw.up 47
       replace hw := hw.up 47
       replace hw := hw.up 47
       replace hw := hw.up 47
       replace hw := hw.up 47
       replace hw := hw.up 47
       replace hw := hw.up 47
       replace hw := hw.up 47
       replace hw := hw.up 47
       replace hw := hw.up 47
       replace hw := hw.up 47
       replace hw := hw.up 47
       replace hw := hw.up 47
       replace hw := hw.up 47
       replace hw := hw.up 47
       replace hw := hw.up 47
       replace hw := hw.up 47
       replace hw := hw.up 47
       exact hJ1 (t230 == 2) _ _ hs.kx hw H

end Go.Proofs.YtmfnololpfdfdaaDoor.T09
