/- YtmfnololpfdfdaaDoorT09zFileParts: Go functions told as plain ones, each with a proof that its call comes to what is told, part 1. Condition of each: that the plain function comes to a value. -/
import Derived.Test.YtmfnololpfdfdaaDoorT10
import Derived.Test.YtmfnololpfdfdaaDoorEO
import Derived.Test.YtmfnololpfdfdaaDoorProg
namespace Go.Proofs.YtmfnololpfdfdaaDoor.T09
open Go Go.RowKit Go.Proofs.YtmfnololpfdfdaaDoor.E
set_option linter.unusedVariables false
set_option linter.unusedSimpArgs false
structure Srivetlaw10_Parts where
  Words : List Int
  Bits : List Int
  Names : List ByteArray
def okSrivetlaw10_Parts (x : Srivetlaw10_Parts) : Prop := (∀ n ∈ x.Words, In .u32 n) ∧ x.Words.length * 4 ≤ 140737488351232 ∧ (∀ n ∈ x.Bits, In .u8 n) ∧ x.Bits.length * 1 ≤ 140737488351232 ∧ (∀ n ∈ x.Names, n.size ≤ 140737488351232) ∧ x.Names.length * 16 ≤ 140737488351232
def mSrivetlaw10_Parts (A : Option Addr) (x : Srivetlaw10_Parts) : Asn := fun L => ∃ g A1 c1 A2 c2 A3 c3, A = some ⟨g, 0, none⟩ ∧ Cov [box g 48 [.slice A1 x.Words.length c1, .slice A2 x.Bits.length c2, .slice A3 x.Names.length c3], own 37 (eI .u32) A1 c1 x.Words, own 5 (eI .u8) A2 c2 x.Bits, own 9 eS A3 c3 x.Names] L
theorem mSrivetlaw10_Parts.open {G : List Nat} {w0 w : World} {As : List Asn} {A : Option Addr} {x : Srivetlaw10_Parts} (h : St G w0 w (mSrivetlaw10_Parts A x :: As)) : ∃ g A1 c1 A2 c2 A3 c3, A = some ⟨g, 0, none⟩ ∧ St G w0 w ([box g 48 [.slice A1 x.Words.length c1, .slice A2 x.Bits.length c2, .slice A3 x.Names.length c3], own 37 (eI .u32) A1 c1 x.Words, own 5 (eI .u8) A2 c2 x.Bits, own 9 eS A3 c3 x.Names] ++ As) := by
  obtain ⟨L, ⟨L1, L2, rfl, ⟨g, A1, c1, A2, c2, A3, c3, rfl, hc⟩, hr⟩, hs⟩ := h
  exact ⟨g, A1, c1, A2, c2, A3, c3, rfl, _, Cov.join hr hc, hs⟩
theorem mSrivetlaw10_Parts.open1 {G : List Nat} {w0 w : World} {As : List Asn} {g : Nat} {x : Srivetlaw10_Parts} (h : St G w0 w (mSrivetlaw10_Parts (some ⟨g, 0, none⟩) x :: As)) : ∃ A1 c1 A2 c2 A3 c3, St G w0 w ([box g 48 [.slice A1 x.Words.length c1, .slice A2 x.Bits.length c2, .slice A3 x.Names.length c3], own 37 (eI .u32) A1 c1 x.Words, own 5 (eI .u8) A2 c2 x.Bits, own 9 eS A3 c3 x.Names] ++ As) := by
  obtain ⟨g', A1, c1, A2, c2, A3, c3, hg, h⟩ := mSrivetlaw10_Parts.open h
  cases hg
  exact ⟨A1, c1, A2, c2, A3, c3, h⟩
theorem mSrivetlaw10_Parts.close {G : List Nat} {w0 w : World} {As : List Asn} {g : Nat} {A1 : Option Addr} {c1 : Nat} {A2 : Option Addr} {c2 : Nat} {A3 : Option Addr} {c3 : Nat} {x : Srivetlaw10_Parts} (h : St G w0 w ([box g 48 [.slice A1 x.Words.length c1, .slice A2 x.Bits.length c2, .slice A3 x.Names.length c3], own 37 (eI .u32) A1 c1 x.Words, own 5 (eI .u8) A2 c2 x.Bits, own 9 eS A3 c3 x.Names] ++ As)) : St G w0 w (mSrivetlaw10_Parts (some ⟨g, 0, none⟩) x :: As) := by
  obtain ⟨L, hc, hs⟩ := h
  obtain ⟨L1, L2, rfl, h1, h2⟩ := Cov.split (Gs := [box g 48 [.slice A1 x.Words.length c1, .slice A2 x.Bits.length c2, .slice A3 x.Names.length c3], own 37 (eI .u32) A1 c1 x.Words, own 5 (eI .u8) A2 c2 x.Bits, own 9 eS A3 c3 x.Names]) hc
  exact ⟨_, ⟨L1, L2, rfl, ⟨g, A1, c1, A2, c2, A3, c3, rfl, h1⟩, h2⟩, hs⟩
/-! rivet/rivetlaw10.FileParts: function 9 -/
noncomputable def rivetlaw10_FileParts.j1 (v92 : Int) (l232 : List Int) : Option ((List Int) × Int ⊕ (Ex Bool (List Int))) := some (.inl (l232, w64 (v92 + 1)))
noncomputable def rivetlaw10_FileParts.j3 (v243 : Bool) : Option Bool := some v243
noncomputable def rivetlaw10_FileParts.j2 (t8 : Bool) (t39 : Int) (t50 : Int) (t38 : List Int) (l236 : List Int) : Option Bool := (if t8 = true then (if t39 = 0 then (if t50 = 0 then rivetlaw10_FileParts.j3 ((strOfNums t38).toList == (strOfNums l236).toList) else rivetlaw10_FileParts.j3 false) else rivetlaw10_FileParts.j3 false) else rivetlaw10_FileParts.j3 false)
noncomputable def rivetlaw10_FileParts.b88 (t14 : Sapi_Obj) (l89 : List Int) (v92 : Int) : Option ((List Int) × Int ⊕ (Ex Bool (List Int))) := (if v92 < (t14.Syms.length : Int) then (if 0 ≤ v92 ∧ v92 < (t14.Syms.length : Int) then ((le_PutName ((ix eSapi_Sym.d t14.Syms v92).Name)).bind fun ⟨t101, t102⟩ => ((if t102 = 0 then (if l89.length + t101.length ≤ 140737488355328 then (if 0 ≤ v92 ∧ v92 < (t14.Syms.length : Int) then ((le_Put ([wu32 ((ix eSapi_Sym.d t14.Syms v92).At)] : List Int)).bind fun t127 => ((if (l89 ++ t101).length + t127.length ≤ 140737488355328 then rivetlaw10_FileParts.j1 v92 ((l89 ++ t101) ++ t127) else none))) else none) else none) else some (.inr (.ret false))))) else none) else some (.inr (.done l89)))
noncomputable def rivetlaw10_FileParts (a0 : Srivetlaw10_Parts) : Option Bool := ((rivetlaw10_shown).bind fun t8 => (((rivetref09_Fit a0.Words a0.Bits a0.Names).bind fun t14 => (((file_Put t14).bind fun ⟨t38, t39⟩ => (((chain_Pack t14.Words t14.Sites).bind fun ⟨t48, t49, t50⟩ => (((le_Put ([894847314, wu32 (t48.length : Int), wu32 t49, wu32 (t14.Syms.length : Int)] : List Int)).bind fun t64 => (((le_Put t48).bind fun t73 => ((if t64.length + t73.length ≤ 140737488355328 then ((loopO (fun (σ : (List Int) × Int) => rivetlaw10_FileParts.b88 t14 σ.1 σ.2) (t64 ++ t73, 0)).bind fun e => match e with | .ret x => some x | .done e => rivetlaw10_FileParts.j2 t8 t39 t50 t38 e) else none)))))))))))))
set_option maxRecDepth 100000 in
set_option maxHeartbeats 4000000 in
theorem rivetlaw10_FileParts.calls (a0 : Srivetlaw10_Parts) (A0_1 : Option Addr) (c0_1 : Nat) (A0_2 : Option Addr) (c0_2 : Nat) (A0_3 : Option Addr) (c0_3 : Nat) (r : Bool) (w0 : World) (hr0_1 : Rd w0 (eI .u32) A0_1 c0_1 a0.Words) (hr0_2 : Rd w0 (eI .u8) A0_2 c0_2 a0.Bits) (hr0_3 : Rd w0 eS A0_3 c0_3 a0.Names) (H : rivetlaw10_FileParts a0 = some r) :
    Calls Tryd.prog 9 #[.agg #[.slice A0_1 a0.Words.length c0_1, .slice A0_2 a0.Bits.length c0_2, .slice A0_3 a0.Names.length c0_3]] w0 fun e w' => e = .returned (.bool r) ∧ St [] w0 w' [] := by
 have hw : St [] w0 w0 [] := St.nil w0
 unfold rivetlaw10_FileParts at H
 refine go_fn Tryd.func9 rfl Tryd.ntmps9 ?_; intro a hs
 refine go_sk fun K1 hK1 => ?_
 obtain ⟨g2, wd3, hx4, hw⟩ := x_boxc (P := Tryd.prog) (elem := 48) (v := (Operand.tmp 0)) (ty := 0) (cs := [.slice A0_1 a0.Words.length c0_1, .slice A0_2 a0.Bits.length c0_2, .slice A0_3 a0.Names.length c0_3]) hs hw (by kernel_rfl)
 refine go_run hs (by rfl) hx4 [0] ?_; clear hs; intro a hs
 refine go_pvs 2 [] [] hs ?_; clear hs; intro a hs
 refine go_end (hK1 _ _ ?_)
 refine go_sk fun K6 hK6 => ?_
 obtain ⟨t8, hx9, H⟩ := bind_some H
 refine go_call hs (by rfl) (rivetlaw10_shown.calls t8 _ hx9) ?_
 rintro e wd10 ⟨rfl, hw11⟩
 refine ⟨_, rfl, ?_⟩
 replace hw := hw.call hw11
 clear hs; intro a hs
 refine go_pvs 2 [14] [(3, .bool t8)] hs ?_; clear hs; intro a hs
 refine go_end (hK6 _ _ ?_)
 refine go_sk fun K12 hK12 => ?_
 refine go_pvs 1 [] [(15, .pointer (some (((⟨g2, 0, none⟩ : Addr) : Addr).add 0)))] hs ?_; clear hs; intro a hs
 refine go_run hs (by rfl) (x_bld (g := g2) (o := 0) (p := ((⟨g2, 0, none⟩ : Addr) : Addr).add 0) (v := .slice A0_1 a0.Words.length c0_1) (hw.up 0)) [15] ?_; clear hs; intro a hs
 refine go_pvs 3 [] [(17, .pointer (some (((⟨g2, 0, none⟩ : Addr) : Addr).add 1)))] hs ?_; clear hs; intro a hs
 refine go_run hs (by rfl) (x_bld (g := g2) (o := 1) (p := ((⟨g2, 0, none⟩ : Addr) : Addr).add 1) (v := .slice A0_2 a0.Bits.length c0_2) (hw.up 0)) [17] ?_; clear hs; intro a hs
 refine go_pvs 5 [1] [(19, .pointer (some (((⟨g2, 0, none⟩ : Addr) : Addr).add 2)))] hs ?_; clear hs; intro a hs
 refine go_run hs (by rfl) (x_bld (g := g2) (o := 2) (p := ((⟨g2, 0, none⟩ : Addr) : Addr).add 2) (v := .slice A0_3 a0.Names.length c0_3) (hw.up 0)) [19] ?_; clear hs; intro a hs
 obtain ⟨t14, hx15, H⟩ := bind_some H
 refine go_call hs (by rfl) (rivetref09_Fit.calls A0_1 c0_1 a0.Words A0_2 c0_2 a0.Bits A0_3 c0_3 a0.Names t14 _ (hr0_1.old hw) (hr0_2.old hw) (hr0_3.old hw) hx15) ?_
 rintro e wd22 ⟨Aa16, cc17, Aa18, cc19, Aa20, cc21, rfl, hw23⟩
 refine ⟨_, rfl, ?_⟩
 replace hw := hw.call hw23
 clear hs; intro a hs; replace hs := hs.rms [16, 18, 20]
 obtain ⟨g27, wd28, hx29, hw⟩ := x_allocc (P := Tryd.prog) (elem := 26) (ty := 0) (z := .agg #[.slice none 0 0, .slice none 0 0, .slice none 0 0]) (cs := [.slice none 0 0, .slice none 0 0, .slice none 0 0]) hs hw (by kernel_rfl) (by kernel_rfl)
 refine go_run hs (by rfl) hx29 [] ?_; clear hs; intro a hs
 replace hw := St.own_nil hw 37 (eI .u32)
 replace hw := St.own_nil hw 3 (eI .i64)
 replace hw := St.own_nil hw 39 eSapi_Sym
 replace hw : St [] w0 wd28 [own 39 eSapi_Sym none 0 ([] : List Sapi_Sym), own 3 (eI .i64) none 0 ([] : List Int), own 37 (eI .u32) none 0 ([] : List Int), box g27 26 [.slice none ([] : List Int).length 0, .slice none ([] : List Int).length 0, .slice none ([] : List Sapi_Sym).length 0], own 37 (eI .u32) Aa16 cc17 t14.Words, own 3 (eI .i64) Aa18 cc19 t14.Sites, own 39 eSapi_Sym Aa20 cc21 t14.Syms, box g2 48 [.slice A0_1 a0.Words.length c0_1, .slice A0_2 a0.Bits.length c0_2, .slice A0_3 a0.Names.length c0_3]] := hw
 replace hw := hw.up 3
 obtain ⟨wd34, hx35, hw⟩ := x_bput (P := Tryd.prog) (ty := 0) (t := 26) (y := (Operand.tmp 4)) (z := (Operand.tmp 21)) (o := 0) (p := (⟨g27, 0, none⟩ : Addr)) (v := .agg #[.slice Aa16 t14.Words.length cc17, .slice Aa18 t14.Sites.length cc19, .slice Aa20 t14.Syms.length cc21]) (vs := [.slice Aa16 t14.Words.length cc17, .slice Aa18 t14.Sites.length cc19, .slice Aa20 t14.Syms.length cc21]) (cs' := [.slice Aa16 t14.Words.length cc17, .slice Aa18 t14.Sites.length cc19, .slice Aa20 t14.Syms.length cc21]) hs hw (by kernel_rfl) rfl (by kernel_rfl) rfl (by kernel_rfl) (by kernel_rfl) (by simp [Value.oneCell']) rfl
 refine go_unit hs (by rfl) hx35 [21] ?_; clear hs; intro a hs
 refine go_end (hK12 _ _ ?_)
 refine go_sk fun K36 hK36 => ?_
 refine go_run hs (by rfl) (x_blds (g := g27) (o := 0) (p := (⟨g27, 0, none⟩ : Addr)) (vs := [.slice Aa16 t14.Words.length cc17, .slice Aa18 t14.Sites.length cc19, .slice Aa20 t14.Syms.length cc21]) (hw.up 0)) [] ?_; clear hs; intro a hs
 obtain ⟨⟨t38, t39⟩, hx40, H⟩ := bind_some H
 refine go_call hs (by rfl) (file_Put.calls t14 Aa16 cc17 Aa18 cc19 Aa20 cc21 (t38, t39) _ (Rd.of_own (hw.up 4)) (Rd.of_own (hw.up 5)) (Rd.of_own (hw.up 6)) hx40) ?_
 rintro e wd43 ⟨Aa41, cc42, rfl, hw44⟩
 refine ⟨_, rfl, ?_⟩
 replace hw := hw.call hw44
 clear hs; intro a hs; replace hs := hs.rms [23]
 refine go_pvs 7 [24] [(5, .slice Aa41 t38.length cc42), (6, .int .i64 t39)] hs ?_; clear hs; intro a hs
 refine go_end (hK36 _ _ ?_)
 refine go_sk fun K46 hK46 => ?_
 refine go_pvs 1 [] [(28, .pointer (some (((⟨g27, 0, none⟩ : Addr) : Addr).add 0)))] hs ?_; clear hs; intro a hs
 refine go_run hs (by rfl) (x_bld (g := g27) (o := 0) (p := ((⟨g27, 0, none⟩ : Addr) : Addr).add 0) (v := .slice Aa16 t14.Words.length cc17) (hw.up 1)) [28] ?_; clear hs; intro a hs
 refine go_pvs 3 [] [(30, .pointer (some (((⟨g27, 0, none⟩ : Addr) : Addr).add 1)))] hs ?_; clear hs; intro a hs
 refine go_run hs (by rfl) (x_bld (g := g27) (o := 1) (p := ((⟨g27, 0, none⟩ : Addr) : Addr).add 1) (v := .slice Aa18 t14.Sites.length cc19) (hw.up 1)) [30] ?_; clear hs; intro a hs
 obtain ⟨⟨t48, t49, t50⟩, hx51, H⟩ := bind_some H
 refine go_call hs (by rfl) (chain_Pack.calls Aa16 cc17 t14.Words Aa18 cc19 t14.Sites (t48, t49, t50) _ (Rd.of_own (hw.up 5)) (Rd.of_own (hw.up 6)) hx51) ?_
 rintro e wd54 ⟨Aa52, cc53, rfl, hw55⟩
 refine ⟨_, rfl, ?_⟩
 replace hw := hw.call hw55
 clear hs; intro a hs; replace hs := hs.rms [29, 31]
 refine go_pvs 12 [32] [(7, .slice Aa52 t48.length cc53), (8, .int .i64 t49), (9, .int .i64 t50)] hs ?_; clear hs; intro a hs
 refine go_end (hK46 _ _ ?_)
 refine go_sk fun K57 hK57 => ?_
 refine go_pvs 6 [8] [(38, .int .u32 (wu32 (t48.length : Int))), (40, .int .u32 (wu32 t49)), (41, .pointer (some (((⟨g27, 0, none⟩ : Addr) : Addr).add 2)))] hs ?_; clear hs; intro a hs
 refine go_run hs (by rfl) (x_bld (g := g27) (o := 2) (p := ((⟨g27, 0, none⟩ : Addr) : Addr).add 2) (v := .slice Aa20 t14.Syms.length cc21) (hw.up 2)) [41] ?_; clear hs; intro a hs
 refine go_pvs 9 [42] [(44, .int .u32 (wu32 (t14.Syms.length : Int)))] hs ?_; clear hs; intro a hs
 replace hs : Slots a 99 [(3, .bool t8), (4, .pointer (some (⟨g27, 0, none⟩ : Addr))), (5, .slice Aa41 t38.length cc42), (6, .int .i64 t39), (7, .slice Aa52 t48.length cc53), (9, .int .i64 t50), (38, .int .u32 (wu32 (t48.length : Int))), (40, .int .u32 (wu32 t49)), (44, .int .u32 (wu32 (t14.Syms.length : Int)))] := hs.kx
 obtain ⟨Aa58, cc59, wd60, hx61, hw⟩ := n_lit (P := Tryd.prog) (t := 22) (ty := 22) (T := 37) (len := 4) (parts := #[(0, (Operand.const (Value.int IntKind.u32 894847314))), (1, (Operand.tmp 38)), (2, (Operand.tmp 40)), (3, (Operand.tmp 44))]) (z := .int .u32 0) (bytes := 4) (cells := #[.int .u32 894847314, .int .u32 (wu32 (t48.length : Int)), .int .u32 (wu32 t49), .int .u32 (wu32 (t14.Syms.length : Int))]) hs hw (eI .u32) ([894847314, wu32 (t48.length : Int), wu32 t49, wu32 (t14.Syms.length : Int)] : List Int) (by kernel_rfl) (by kernel_rfl) (by kernel_rfl) (by kernel_rfl) (by kernel_rfl) (by kernel_rfl) (by kernel_rfl)
 refine go_run hs (by rfl) hx61 [38, 40, 44] ?_; clear hs; intro a hs
 obtain ⟨t64, hx65, H⟩ := bind_some H
 refine go_call hs (by rfl) (le_Put.calls Aa58 cc59 ([894847314, wu32 (t48.length : Int), wu32 t49, wu32 (t14.Syms.length : Int)] : List Int) t64 _ (Rd.of_own (hw.up 0)) hx65) ?_
 rintro e wd68 ⟨Aa66, cc67, rfl, hw69⟩
 refine ⟨_, rfl, ?_⟩
 replace hw := hw.call hw69
 clear hs; intro a hs; replace hs := hs.rms [45]
 refine go_pvs 12 [46] [(10, .slice Aa66 t64.length cc67)] hs ?_; clear hs; intro a hs
 refine go_end (hK57 _ _ ?_)
 refine go_sk fun K71 hK71 => ?_
 refine go_pvs 2 [7, 10] [(47, .slice Aa66 t64.length cc67), (48, .slice Aa52 t48.length cc53)] hs ?_; clear hs; intro a hs
 obtain ⟨t73, hx74, H⟩ := bind_some H
 refine go_call hs (by rfl) (le_Put.calls Aa52 cc53 t48 t73 _ (Rd.of_own (hw.up 2)) hx74) ?_
 rintro e wd77 ⟨Aa75, cc76, rfl, hw78⟩
 refine ⟨_, rfl, ?_⟩
 replace hw := hw.call hw78
 clear hs; intro a hs; replace hs := hs.rms [48]
 obtain ⟨hp80, H⟩ := ite_only H
 have hsrc85 : Src Tryd.prog (eI .u8).sz 32 (.slice Aa75 t73.length cc76) t73.length (t73.flatMap (eI .u8).enc) _ := (Src.of_rd (E := (eI .u8)) (e' := 5) (by kernel_rfl) (Rd.of_own (hw.up 0)))
 replace hw := hw.up 1
 obtain ⟨Aa81, cc82, wd83, hx84, hw⟩ := x_append (P := Tryd.prog) (t := 32) (tx := 32) (ty := 32) (x := (Operand.tmp 47)) (y := (Operand.tmp 49)) (z := .int .u8 0) (bytes := 1) (l2 := t73) hs hw (by kernel_rfl) (by kernel_rfl) (by kernel_rfl) (by kernel_rfl) (by kernel_rfl) hsrc85 (by omega) (by omega)
 refine go_run hs (by rfl) hx84 [47, 49] ?_; clear hs; intro a hs
 refine go_pvs 5 [50] [(10, .slice Aa81 (t64 ++ t73).length cc82)] hs ?_; clear hs; intro a hs
 refine go_end (hK71 _ _ ?_)
 refine go_seq_k fun K86 hK86 => ?_
 refine go_sp [] [(11, .int .i64 0)] hs ?_; clear hs; intro a hs
 refine wp_block ?_
 obtain ⟨e88, hl88, HX88⟩ := bind_some H
 have hJ2 : ∀ (Aa237 : Option Addr) (cc238 : Nat) (l236 : List Int) (a : Act) (w : World), Slots a 99 [(3, .bool t8), (5, .slice Aa41 t38.length cc42), (6, .int .i64 t39), (9, .int .i64 t50), (10, .slice Aa237 l236.length cc238)] → St [] w0 w [own 5 (eI .u8) Aa237 cc238 l236, own 5 (eI .u8) Aa75 cc76 t73, own 37 (eI .u32) Aa58 cc59 ([894847314, wu32 (t48.length : Int), wu32 t49, wu32 (t14.Syms.length : Int)] : List Int), own 37 (eI .u32) Aa52 cc53 t48, own 5 (eI .u8) Aa41 cc42 t38, box g27 26 [.slice Aa16 t14.Words.length cc17, .slice Aa18 t14.Sites.length cc19, .slice Aa20 t14.Syms.length cc21], own 39 eSapi_Sym none 0 ([] : List Sapi_Sym), own 3 (eI .i64) none 0 ([] : List Int), own 37 (eI .u32) none 0 ([] : List Int), own 37 (eI .u32) Aa16 cc17 t14.Words, own 3 (eI .i64) Aa18 cc19 t14.Sites, own 39 eSapi_Sym Aa20 cc21 t14.Syms, box g2 48 [.slice A0_1 a0.Words.length c0_1, .slice A0_2 a0.Bits.length c0_2, .slice A0_3 a0.Names.length c0_3]] → rivetlaw10_FileParts.j2 t8 t39 t50 t38 l236 = some r → K86 a w := by
  intro Aa237 cc238 l236 a w hs hw H
  unfold rivetlaw10_FileParts.j2 at H
  refine hK86 _ _ ?_
  refine go_seq_k fun K239 hK239 => ?_
  have hJ3 : ∀ (v243 : Bool) (a : Act) (w : World), Slots a 99 [(2, .bool v243)] → St [] w0 w [own 5 (eI .u8) Aa237 cc238 l236, own 5 (eI .u8) Aa75 cc76 t73, own 37 (eI .u32) Aa58 cc59 ([894847314, wu32 (t48.length : Int), wu32 t49, wu32 (t14.Syms.length : Int)] : List Int), own 37 (eI .u32) Aa52 cc53 t48, own 5 (eI .u8) Aa41 cc42 t38, box g27 26 [.slice Aa16 t14.Words.length cc17, .slice Aa18 t14.Sites.length cc19, .slice Aa20 t14.Syms.length cc21], own 39 eSapi_Sym none 0 ([] : List Sapi_Sym), own 3 (eI .i64) none 0 ([] : List Int), own 37 (eI .u32) none 0 ([] : List Int), own 37 (eI .u32) Aa16 cc17 t14.Words, own 3 (eI .i64) Aa18 cc19 t14.Sites, own 39 eSapi_Sym Aa20 cc21 t14.Syms, box g2 48 [.slice A0_1 a0.Words.length c0_1, .slice A0_2 a0.Bits.length c0_2, .slice A0_3 a0.Names.length c0_3]] → rivetlaw10_FileParts.j3 v243 = some r → K239 a w := by
   intro v243 a w hs hw H
   unfold rivetlaw10_FileParts.j3 at H
   refine hK239 _ _ ?_
   refine wp_ret ?_
   obtain rfl := Option.some.inj H
   refine ret1 (t := 2) (v := .bool v243) hs (by kernel_rfl) (by kernel_rfl) ?_
   exact ⟨rfl, hw.only 0⟩
  refine go_region ?_
  refine go_pvs 2 [3] [(84, .bool t8)] hs ?_; clear hs; intro a hs
  cases hb240 : t8
  ·replace H := ite_f H (ff hb240)
   rw [hb240] at hs
   refine go_pvs 17 [5, 6, 9, 10, 84] [(2, .bool false)] hs ?_; clear hs; intro a hs
   refine go_end ?_
   replace hw := hw.up 12
   replace hw := hw.up 12
   replace hw := hw.up 12
   replace hw := hw.up 12
   replace hw := hw.up 12
   replace hw := hw.up 12
   replace hw := hw.up 12
   replace hw := hw.up 12
   replace hw := hw.up 12
   replace hw := hw.up 12
   replace hw := hw.up 12
   replace hw := hw.up 12
   replace hw := hw.up 12
   exact hJ3 false _ _ hs.kx hw H
  ·replace H := ite_t H hb240
   rw [hb240] at hs
   refine go_pvs 6 [6, 84] [(88, .bool (t39 == 0))] hs ?_; clear hs; intro a hs
   cases hb241 : (t39 == 0)
   ·replace H := ite_f H (beq_eq_false_iff_ne.1 hb241)
    rw [hb241] at hs
    refine go_pvs 17 [5, 9, 10, 88] [(2, .bool false)] hs ?_; clear hs; intro a hs
    refine go_end ?_
    replace hw := hw.up 12
    replace hw := hw.up 12
    replace hw := hw.up 12
    replace hw := hw.up 12
    replace hw := hw.up 12
    replace hw := hw.up 12
    replace hw := hw.up 12
    replace hw := hw.up 12
    replace hw := hw.up 12
    replace hw := hw.up 12
    replace hw := hw.up 12
    replace hw := hw.up 12
    replace hw := hw.up 12
    exact hJ3 false _ _ hs.kx hw H
   ·replace H := ite_t H (beq_iff_eq.1 hb241)
    rw [hb241] at hs
    refine go_pvs 10 [9, 88] [(92, .bool (t50 == 0))] hs ?_; clear hs; intro a hs
    cases hb242 : (t50 == 0)
    ·replace H := ite_f H (beq_eq_false_iff_ne.1 hb242)
     rw [hb242] at hs
     refine go_pvs 17 [5, 10, 92] [(2, .bool false)] hs ?_; clear hs; intro a hs
     refine go_end ?_
     replace hw := hw.up 12
     replace hw := hw.up 12
     replace hw := hw.up 12
     replace hw := hw.up 12
     replace hw := hw.up 12
     replace hw := hw.up 12
     replace hw := hw.up 12
     replace hw := hw.up 12
     replace hw := hw.up 12
     replace hw := hw.up 12
     replace hw := hw.up 12
     replace hw := hw.up 12
     replace hw := hw.up 12
     exact hJ3 false _ _ hs.kx hw H
    ·replace H := ite_t H (beq_iff_eq.1 hb242)
     rw [hb242] at hs
     refine go_pvs 11 [5] [(93, .slice Aa41 t38.length cc42)] hs ?_; clear hs; intro a hs
     refine go_run hs (by rfl) (x_conv (e := 5) (l := t38) (Rd.of_own (hw.up 4)) (by kernel_rfl) (by kernel_rfl) (by kernel_rfl) (by kernel_rfl)) [93] ?_; clear hs; intro a hs
     refine go_pvs 13 [10] [(95, .slice Aa237 l236.length cc238)] hs ?_; clear hs; intro a hs
     refine go_run hs (by rfl) (x_conv (e := 5) (l := l236) (Rd.of_own (hw.up 0)) (by kernel_rfl) (by kernel_rfl) (by kernel_rfl) (by kernel_rfl)) [95] ?_; clear hs; intro a hs
     refine go_pvs 17 [92, 94, 96] [(2, .bool ((strOfNums t38).toList == (strOfNums l236).toList))] hs ?_; clear hs; intro a hs
     refine go_end ?_
     replace hw := hw.up 12
     replace hw := hw.up 12
     replace hw := hw.up 12
     replace hw := hw.up 12
     replace hw := hw.up 12
     replace hw := hw.up 12
     replace hw := hw.up 12
     replace hw := hw.up 12
     replace hw := hw.up 12
     replace hw := hw.up 12
     replace hw := hw.up 12
     replace hw := hw.up 12
     replace hw := hw.up 12
     exact hJ3 ((strOfNums t38).toList == (strOfNums l236).toList) _ _ hs.kx hw H
 clear H
 refine go_loop (σ := (List Int) × Int) (fun σ a w => ∃ Aa90, ∃ cc91, Slots a 99 [(3, .bool t8), (4, .pointer (some (⟨g27, 0, none⟩ : Addr))), (5, .slice Aa41 t38.length cc42), (6, .int .i64 t39), (9, .int .i64 t50), (10, .slice Aa90 σ.1.length cc91), (11, .int .i64 σ.2)] ∧ St [] w0 w [own 5 (eI .u8) Aa90 cc91 σ.1, own 5 (eI .u8) Aa75 cc76 t73, own 37 (eI .u32) Aa58 cc59 ([894847314, wu32 (t48.length : Int), wu32 t49, wu32 (t14.Syms.length : Int)] : List Int), own 37 (eI .u32) Aa52 cc53 t48, own 5 (eI .u8) Aa41 cc42 t38, box g27 26 [.slice Aa16 t14.Words.length cc17, .slice Aa18 t14.Sites.length cc19, .slice Aa20 t14.Syms.length cc21], own 39 eSapi_Sym none 0 ([] : List Sapi_Sym), own 3 (eI .i64) none 0 ([] : List Int), own 37 (eI .u32) none 0 ([] : List Int), own 37 (eI .u32) Aa16 cc17 t14.Words, own 3 (eI .i64) Aa18 cc19 t14.Sites, own 39 eSapi_Sym Aa20 cc21 t14.Syms, box g2 48 [.slice A0_1 a0.Words.length c0_1, .slice A0_2 a0.Bits.length c0_2, .slice A0_3 a0.Names.length c0_3]]) hl88 (by exact ⟨Aa81, cc82, hs.kx, hw⟩) ?_
 rintro ⟨l89, v92⟩ a w ⟨Aa90, cc91, hs, hw⟩ o H hr88
 replace hs : Slots a 99 [(3, .bool t8), (4, .pointer (some (⟨g27, 0, none⟩ : Addr))), (5, .slice Aa41 t38.length cc42), (6, .int .i64 t39), (9, .int .i64 t50), (10, .slice Aa90 l89.length cc91), (11, .int .i64 v92)] := hs
 replace hw : St [] w0 w [own 5 (eI .u8) Aa90 cc91 l89, own 5 (eI .u8) Aa75 cc76 t73, own 37 (eI .u32) Aa58 cc59 ([894847314, wu32 (t48.length : Int), wu32 t49, wu32 (t14.Syms.length : Int)] : List Int), own 37 (eI .u32) Aa52 cc53 t48, own 5 (eI .u8) Aa41 cc42 t38, box g27 26 [.slice Aa16 t14.Words.length cc17, .slice Aa18 t14.Sites.length cc19, .slice Aa20 t14.Syms.length cc21], own 39 eSapi_Sym none 0 ([] : List Sapi_Sym), own 3 (eI .i64) none 0 ([] : List Int), own 37 (eI .u32) none 0 ([] : List Int), own 37 (eI .u32) Aa16 cc17 t14.Words, own 3 (eI .i64) Aa18 cc19 t14.Sites, own 39 eSapi_Sym Aa20 cc21 t14.Syms, box g2 48 [.slice A0_1 a0.Words.length c0_1, .slice A0_2 a0.Bits.length c0_2, .slice A0_3 a0.Names.length c0_3]] := hw
 replace H : rivetlaw10_FileParts.b88 t14 l89 v92 = some o := H
 unfold rivetlaw10_FileParts.b88 at H
 refine go_seq_k fun K93 hK93 => ?_
 refine go_sk fun K94 hK94 => ?_
 refine go_pvs 2 [] [(51, .int .i64 v92), (52, .pointer (some (((⟨g27, 0, none⟩ : Addr) : Addr).add 2)))] hs ?_; clear hs; intro a hs
 refine go_run hs (by rfl) (x_bld (g := g27) (o := 2) (p := ((⟨g27, 0, none⟩ : Addr) : Addr).add 2) (v := .slice Aa20 t14.Syms.length cc21) (hw.up 5)) [52] ?_; clear hs; intro a hs
 refine go_pvs 5 [51, 53] [(55, .bool (decide (v92 < (t14.Syms.length : Int))))] hs ?_; clear hs; intro a hs
 refine go_end (hK94 _ _ ?_)
 refine go_cond hs (decide (v92 < (t14.Syms.length : Int))) (fun hc => ?_) fun hc => ?_
 ·replace H := ite_t H (of_decide_eq_true hc)
  have hb95 := hc
  rw [hb95] at hs
  refine wp_skip ?_
  refine hK93 _ _ ?_
  refine go_seq_k fun K96 hK96 => ?_
  have hJ1 : ∀ (Aa233 : Option Addr) (cc234 : Nat) (l232 : List Int) (a : Act) (w : World), Slots a 99 [(3, .bool t8), (4, .pointer (some (⟨g27, 0, none⟩ : Addr))), (5, .slice Aa41 t38.length cc42), (6, .int .i64 t39), (9, .int .i64 t50), (10, .slice Aa233 l232.length cc234), (11, .int .i64 v92)] → St [] w0 w [own 5 (eI .u8) Aa233 cc234 l232, own 5 (eI .u8) Aa75 cc76 t73, own 37 (eI .u32) Aa58 cc59 ([894847314, wu32 (t48.length : Int), wu32 t49, wu32 (t14.Syms.length : Int)] : List Int), own 37 (eI .u32) Aa52 cc53 t48, own 5 (eI .u8) Aa41 cc42 t38, box g27 26 [.slice Aa16 t14.Words.length cc17, .slice Aa18 t14.Sites.length cc19, .slice Aa20 t14.Syms.length cc21], own 39 eSapi_Sym none 0 ([] : List Sapi_Sym), own 3 (eI .i64) none 0 ([] : List Int), own 37 (eI .u32) none 0 ([] : List Int), own 37 (eI .u32) Aa16 cc17 t14.Words, own 3 (eI .i64) Aa18 cc19 t14.Sites, own 39 eSapi_Sym Aa20 cc21 t14.Syms, box g2 48 [.slice A0_1 a0.Words.length c0_1, .slice A0_2 a0.Bits.length c0_2, .slice A0_3 a0.Names.length c0_3]] → rivetlaw10_FileParts.j1 v92 l232 = some o → K96 a w := by
   intro Aa233 cc234 l232 a w hs hw H
   unfold rivetlaw10_FileParts.j1 at H
   refine hK96 _ _ ?_
   refine go_plain [] [(11, .int .i64 (w64 (v92 + 1)))] hs ?_; clear hs; intro a hs
   replace hw := hw.up 12
   replace hw := hw.up 12
   replace hw := hw.up 12
   replace hw := hw.up 12
   replace hw := hw.up 12
   replace hw := hw.up 12
   replace hw := hw.up 12
   replace hw := hw.up 12
   replace hw := hw.up 12
   replace hw := hw.up 12
   replace hw := hw.up 12
   replace hw := hw.up 12
   replace hw := hw.up 12
   exact round_end (l232, w64 (v92 + 1)) (Option.some.inj H).symm ⟨Aa233, cc234, hs.kx, hw⟩
  refine wp_block ?_
  refine go_sk fun K97 hK97 => ?_
  refine go_pvs 1 [55] [(59, .pointer (some (((⟨g27, 0, none⟩ : Addr) : Addr).add 2)))] hs ?_; clear hs; intro a hs
  refine go_run hs (by rfl) (x_bld (g := g27) (o := 2) (p := ((⟨g27, 0, none⟩ : Addr) : Addr).add 2) (v := .slice Aa20 t14.Syms.length cc21) (hw.up 5)) [59] ?_; clear hs; intro a hs
  refine go_pvs 3 [] [(61, .int .i64 v92)] hs ?_; clear hs; intro a hs
  obtain ⟨hp98, H⟩ := ite_only H
  obtain ⟨ad99, rfl⟩ := (Rd.of_own (hw.up 11)).some hp98.1 hp98.2
  refine go_run hs (by rfl) (x_idx (T := 39) (sz := 2) (a := ad99) (n := t14.Syms.length) (cap := cc21) (k := .i64) (i := v92) hp98) [60, 61] ?_; clear hs; intro a hs
  refine go_pvs 5 [62] [(63, .pointer (some ((ad99.add (v92.toNat * 2) : Addr).add 0)))] hs ?_; clear hs; intro a hs
  refine go_run hs (by rfl) (x_ld (off := 0) (p := (ad99.add (v92.toNat * 2) : Addr).add 0) (v := .string ((ix eSapi_Sym.d t14.Syms v92).Name)) (Rd.of_own (hw.up 11)) hp98 (by simp only [add_add', Nat.add_assoc]; rfl)) [63] ?_; clear hs; intro a hs
  obtain ⟨⟨t101, t102⟩, hx103, H⟩ := bind_some H
  refine go_call hs (by rfl) (le_PutName.calls ((ix eSapi_Sym.d t14.Syms v92).Name) (t101, t102) _ hx103) ?_
  rintro e wd106 ⟨Aa104, cc105, rfl, hw107⟩
  refine ⟨_, rfl, ?_⟩
  replace hw := hw.call hw107
  clear hs; intro a hs; replace hs := hs.rms [64]
  refine go_pvs 12 [65] [(12, .slice Aa104 t101.length cc105), (13, .int .i64 t102)] hs ?_; clear hs; intro a hs
  refine go_end (hK97 _ _ ?_)
  refine go_seq_k fun K109 hK109 => ?_
  refine go_sp [13] [(69, .bool (t102 != 0))] hs ?_; clear hs; intro a hs
  refine go_cond hs (t102 != 0) (fun hc => ?_) fun hc => ?_
  ·replace H := ite_f H (bne_iff_ne.1 hc)
   have hb111 := hc
   rw [hb111] at hs
   refine go_sp [3, 4, 5, 6, 9, 10, 11, 12, 69] [(2, .bool false)] hs ?_; clear hs; intro a hs
   refine wp_ret ?_
   refine th_ret ?_
   refine ib_ret ?_
   refine th_ret ?_
   refine th_ret ?_
   refine ib_ret ?_
   refine th_ret ?_
   rw [← hr88 _ (Option.some.inj H).symm] at HX88
   replace H : some false = some r := HX88
   obtain rfl := Option.some.inj H
   refine ret1 (t := 2) (v := .bool false) hs (by kernel_rfl) (by kernel_rfl) ?_
   exact ⟨rfl, hw.only 0⟩
  ·replace H := ite_t H (bne_eq_false_iff_eq.1 hc)
   have hb113 := hc
   rw [hb113] at hs
   refine wp_skip ?_
   refine hK109 _ _ ?_
   obtain ⟨hp114, H⟩ := ite_only H
   obtain ⟨hp120, H⟩ := ite_only H
   obtain ⟨t127, hx128, H⟩ := bind_some H
   obtain ⟨hp134, H⟩ := ite_only H
   refine o_region [2, 4, 8, 10, 11, 12] (.two [0, 1, 3, 5] 2 (.one [] 4 (.one [6, 7] 8 (.one [9] 10 (.one [] 11 (.one [] 12 (.fin [13])))))) 4 (.two [6, 7] 2 (.one [] 8 (.one [9] 10 (.one [] 11 (.one [] 12 (.fin [13]))))) 8 (.two [9] 2 (.one [] 10 (.one [] 11 (.one [] 12 (.fin [13])))) 10 (.one [] 2 (.one [] 11 (.one [] 12 (.fin [13]))))))) (by kernel_rfl) (by kernel_rfl) (fun c a d v w h => by cases d <;> exact h) ?_
   intro wq hbq; replace hw := hw.behind hbq; clear hbq
   refine o_two ?_
   refine c_pvs [0, 1, 3, 5] [] [12, 69] [(70, .slice Aa90 l89.length cc91), (71, .slice Aa104 t101.length cc105), (73, .pointer (some (((⟨g27, 0, none⟩ : Addr) : Addr).add 2))), (75, .int .i64 v92)] hs ?_; clear hs; intro a hs
   refine c_end ⟨?_, ?_⟩
   ·skip
    have hsrc144 : Src Tryd.prog (eI .u8).sz 32 (.slice Aa104 t101.length cc105) t101.length (t101.flatMap (eI .u8).enc) _ := (Src.of_rd (E := (eI .u8)) (e' := 5) (by kernel_rfl) (Rd.of_own (hw.up 0)))
    replace hw := hw.up 1
    obtain ⟨Aa140, cc141, wd142, hx143, hw⟩ := x_append (P := Tryd.prog) (t := 32) (tx := 32) (ty := 32) (x := (Operand.tmp 70)) (y := (Operand.tmp 71)) (z := .int .u8 0) (bytes := 1) (l2 := t101) hs hw (by kernel_rfl) (by kernel_rfl) (by kernel_rfl) (by kernel_rfl) (by kernel_rfl) hsrc144 (by omega) (by omega)
    refine p_run hs (by rfl) hx143 [10, 70, 71] ?_; clear hs; intro a hs
    refine c_done ?_
    refine o_one ?_
    refine c_end ?_
    refine p_run hs (by rfl) (x_bld (g := g27) (o := 2) (p := ((⟨g27, 0, none⟩ : Addr) : Addr).add 2) (v := .slice (some ad99) t14.Syms.length cc21) (hw.up 6)) [73] ?_; clear hs; intro a hs
    refine c_done ?_
    refine o_one ?_
    refine c0_run hs (by rfl) (fun wx _ => (x_idx (T := 39) (sz := 2) (a := ad99) (n := t14.Syms.length) (cap := cc21) (k := .i64) (i := v92) hp120)) [74, 75] ?_; clear hs; intro a hs
    refine c_pvs [7] [] [76] [(77, .pointer (some ((ad99.add (v92.toNat * 2) : Addr).add 1)))] hs ?_; clear hs; intro a hs
    refine c_end ?_
    refine p_run hs (by rfl) (x_ld (off := 1) (p := (ad99.add (v92.toNat * 2) : Addr).add 1) (v := .int .i64 ((ix eSapi_Sym.d t14.Syms v92).At)) (Rd.of_own (hw.up 12)) hp120 (by simp only [add_add', Nat.add_assoc]; rfl)) [77] ?_; clear hs; intro a hs
    refine c_done ?_
    refine o_one ?_
    refine c_pvs [9] [] [78] [(79, .int .u32 (wu32 ((ix eSapi_Sym.d t14.Syms v92).At)))] hs ?_; clear hs; intro a hs
    refine c_end ?_
    obtain ⟨Aa145, cc146, wd147, hx148, hw⟩ := n_lit (P := Tryd.prog) (t := 22) (ty := 22) (T := 37) (len := 1) (parts := #[(0, (Operand.tmp 79))]) (z := .int .u32 0) (bytes := 4) (cells := #[.int .u32 (wu32 ((ix eSapi_Sym.d t14.Syms v92).At))]) hs hw (eI .u32) ([wu32 ((ix eSapi_Sym.d t14.Syms v92).At)] : List Int) (by kernel_rfl) (by kernel_rfl) (by kernel_rfl) (by kernel_rfl) (by kernel_rfl) (by kernel_rfl) (by kernel_rfl)
    refine p_run hs (by rfl) hx148 [79] ?_; clear hs; intro a hs
    refine c_done ?_
    refine o_one ?_
    refine c_end ?_
    refine p_call hs (by rfl) (le_Put.calls Aa145 cc146 ([wu32 ((ix eSapi_Sym.d t14.Syms v92).At)] : List Int) t127 _ (Rd.of_own (hw.up 0)) hx128) ?_
    rintro e wd155 ⟨Aa153, cc154, rfl, hw156⟩
    refine ⟨_, rfl, ?_⟩
    replace hw := hw.call hw156
    clear hs; intro a hs; replace hs := hs.rms [80]
    refine c_done ?_
    refine o_one ?_
    refine c_end ?_
    have hsrc162 : Src Tryd.prog (eI .u8).sz 32 (.slice Aa153 t127.length cc154) t127.length (t127.flatMap (eI .u8).enc) _ := (Src.of_rd (E := (eI .u8)) (e' := 5) (by kernel_rfl) (Rd.of_own (hw.up 0)))
    replace hw := hw.up 2
    obtain ⟨Aa158, cc159, wd160, hx161, hw⟩ := x_append (P := Tryd.prog) (t := 32) (tx := 32) (ty := 32) (x := (Operand.tmp 72)) (y := (Operand.tmp 81)) (z := .int .u8 0) (bytes := 1) (l2 := t127) hs hw (by kernel_rfl) (by kernel_rfl) (by kernel_rfl) (by kernel_rfl) (by kernel_rfl) hsrc162 (by omega) (by omega)
    refine p_run hs (by rfl) hx161 [72, 81] ?_; clear hs; intro a hs
    refine c_done ?_
    refine o_fin ?_
    refine c_pvs [13] [] [82] [(10, .slice Aa158 ((l89 ++ t101) ++ t127).length cc159)] hs ?_; clear hs; intro a hs
    refine c_end ?_
    refine ib_norm ?_
    replace hw := hw.up 15
    replace hw := hw.up 15
    replace hw := hw.up 15
    replace hw := hw.up 15
    replace hw := hw.up 15
    replace hw := hw.up 15
    replace hw := hw.up 15
    replace hw := hw.up 15
    replace hw := hw.up 15
    replace hw := hw.up 15
    replace hw := hw.up 15
    replace hw := hw.up 15
    replace hw := hw.up 12
    replace hw := hw.only 13
    exact hJ1 Aa158 cc159 ((l89 ++ t101) ++ t127) _ _ hs.kx hw H
   ·skip
    refine p_run hs (by rfl) (x_bld (g := g27) (o := 2) (p := ((⟨g27, 0, none⟩ : Addr) : Addr).add 2) (v := .slice (some ad99) t14.Syms.length cc21) (hw.up 6)) [73] ?_; clear hs; intro a hs
    refine c_done ?_
    refine o_two ?_
    refine c0_run hs (by rfl) (fun wx _ => (x_idx (T := 39) (sz := 2) (a := ad99) (n := t14.Syms.length) (cap := cc21) (k := .i64) (i := v92) hp120)) [74, 75] ?_; clear hs; intro a hs
    refine c_pvs [7] [] [76] [(77, .pointer (some ((ad99.add (v92.toNat * 2) : Addr).add 1)))] hs ?_; clear hs; intro a hs
    refine c_end ⟨?_, ?_⟩
    ·skip
     have hsrc167 : Src Tryd.prog (eI .u8).sz 32 (.slice Aa104 t101.length cc105) t101.length (t101.flatMap (eI .u8).enc) _ := (Src.of_rd (E := (eI .u8)) (e' := 5) (by kernel_rfl) (Rd.of_own (hw.up 0)))
     replace hw := hw.up 1
     obtain ⟨Aa163, cc164, wd165, hx166, hw⟩ := x_append (P := Tryd.prog) (t := 32) (tx := 32) (ty := 32) (x := (Operand.tmp 70)) (y := (Operand.tmp 71)) (z := .int .u8 0) (bytes := 1) (l2 := t101) hs hw (by kernel_rfl) (by kernel_rfl) (by kernel_rfl) (by kernel_rfl) (by kernel_rfl) hsrc167 (by omega) (by omega)
     refine p_run hs (by rfl) hx166 [10, 70, 71] ?_; clear hs; intro a hs
     refine c_done ?_
     refine o_one ?_
     refine c_end ?_
     refine p_run hs (by rfl) (x_ld (off := 1) (p := (ad99.add (v92.toNat * 2) : Addr).add 1) (v := .int .i64 ((ix eSapi_Sym.d t14.Syms v92).At)) (Rd.of_own (hw.up 12)) hp120 (by simp only [add_add', Nat.add_assoc]; rfl)) [77] ?_; clear hs; intro a hs
     refine c_done ?_
     refine o_one ?_
     refine c_pvs [9] [] [78] [(79, .int .u32 (wu32 ((ix eSapi_Sym.d t14.Syms v92).At)))] hs ?_; clear hs; intro a hs
     refine c_end ?_
     obtain ⟨Aa168, cc169, wd170, hx171, hw⟩ := n_lit (P := Tryd.prog) (t := 22) (ty := 22) (T := 37) (len := 1) (parts := #[(0, (Operand.tmp 79))]) (z := .int .u32 0) (bytes := 4) (cells := #[.int .u32 (wu32 ((ix eSapi_Sym.d t14.Syms v92).At))]) hs hw (eI .u32) ([wu32 ((ix eSapi_Sym.d t14.Syms v92).At)] : List Int) (by kernel_rfl) (by kernel_rfl) (by kernel_rfl) (by kernel_rfl) (by kernel_rfl) (by kernel_rfl) (by kernel_rfl)
     refine p_run hs (by rfl) hx171 [79] ?_; clear hs; intro a hs
     refine c_done ?_
     refine o_one ?_
     refine c_end ?_
     refine p_call hs (by rfl) (le_Put.calls Aa168 cc169 ([wu32 ((ix eSapi_Sym.d t14.Syms v92).At)] : List Int) t127 _ (Rd.of_own (hw.up 0)) hx128) ?_
     rintro e wd178 ⟨Aa176, cc177, rfl, hw179⟩
     refine ⟨_, rfl, ?_⟩
     replace hw := hw.call hw179
     clear hs; intro a hs; replace hs := hs.rms [80]
     refine c_done ?_
     refine o_one ?_
     refine c_end ?_
     have hsrc185 : Src Tryd.prog (eI .u8).sz 32 (.slice Aa176 t127.length cc177) t127.length (t127.flatMap (eI .u8).enc) _ := (Src.of_rd (E := (eI .u8)) (e' := 5) (by kernel_rfl) (Rd.of_own (hw.up 0)))
     replace hw := hw.up 2
     obtain ⟨Aa181, cc182, wd183, hx184, hw⟩ := x_append (P := Tryd.prog) (t := 32) (tx := 32) (ty := 32) (x := (Operand.tmp 72)) (y := (Operand.tmp 81)) (z := .int .u8 0) (bytes := 1) (l2 := t127) hs hw (by kernel_rfl) (by kernel_rfl) (by kernel_rfl) (by kernel_rfl) (by kernel_rfl) hsrc185 (by omega) (by omega)
     refine p_run hs (by rfl) hx184 [72, 81] ?_; clear hs; intro a hs
     refine c_done ?_
     refine o_fin ?_
     refine c_pvs [13] [] [82] [(10, .slice Aa181 ((l89 ++ t101) ++ t127).length cc182)] hs ?_; clear hs; intro a hs
     refine c_end ?_
     refine ib_norm ?_
     replace hw := hw.up 15
     replace hw := hw.up 15
     replace hw := hw.up 15
     replace hw := hw.up 15
     replace hw := hw.up 15
     replace hw := hw.up 15
     replace hw := hw.up 15
     replace hw := hw.up 15
     replace hw := hw.up 15
     replace hw := hw.up 15
     replace hw := hw.up 15
     replace hw := hw.up 15
     replace hw := hw.up 12
     replace hw := hw.only 13
     exact hJ1 Aa181 cc182 ((l89 ++ t101) ++ t127) _ _ hs.kx hw H
    ·skip
     refine p_run hs (by rfl) (x_ld (off := 1) (p := (ad99.add (v92.toNat * 2) : Addr).add 1) (v := .int .i64 ((ix eSapi_Sym.d t14.Syms v92).At)) (Rd.of_own (hw.up 12)) hp120 (by simp only [add_add', Nat.add_assoc]; rfl)) [77] ?_; clear hs; intro a hs
     refine c_done ?_
     refine o_two ?_
     refine c_pvs [9] [] [78] [(79, .int .u32 (wu32 ((ix eSapi_Sym.d t14.Syms v92).At)))] hs ?_; clear hs; intro a hs
     refine c_end ⟨?_, ?_⟩
     ·skip
      have hsrc190 : Src Tryd.prog (eI .u8).sz 32 (.slice Aa104 t101.length cc105) t101.length (t101.flatMap (eI .u8).enc) _ := (Src.of_rd (E := (eI .u8)) (e' := 5) (by kernel_rfl) (Rd.of_own (hw.up 0)))
      replace hw := hw.up 1
      obtain ⟨Aa186, cc187, wd188, hx189, hw⟩ := x_append (P := Tryd.prog) (t := 32) (tx := 32) (ty := 32) (x := (Operand.tmp 70)) (y := (Operand.tmp 71)) (z := .int .u8 0) (bytes := 1) (l2 := t101) hs hw (by kernel_rfl) (by kernel_rfl) (by kernel_rfl) (by kernel_rfl) (by kernel_rfl) hsrc190 (by omega) (by omega)
      refine p_run hs (by rfl) hx189 [10, 70, 71] ?_; clear hs; intro a hs
      refine c_done ?_
      refine o_one ?_
      refine c_end ?_
      obtain ⟨Aa191, cc192, wd193, hx194, hw⟩ := n_lit (P := Tryd.prog) (t := 22) (ty := 22) (T := 37) (len := 1) (parts := #[(0, (Operand.tmp 79))]) (z := .int .u32 0) (bytes := 4) (cells := #[.int .u32 (wu32 ((ix eSapi_Sym.d t14.Syms v92).At))]) hs hw (eI .u32) ([wu32 ((ix eSapi_Sym.d t14.Syms v92).At)] : List Int) (by kernel_rfl) (by kernel_rfl) (by kernel_rfl) (by kernel_rfl) (by kernel_rfl) (by kernel_rfl) (by kernel_rfl)
      refine p_run hs (by rfl) hx194 [79] ?_; clear hs; intro a hs
      refine c_done ?_
      refine o_one ?_
      refine c_end ?_
      refine p_call hs (by rfl) (le_Put.calls Aa191 cc192 ([wu32 ((ix eSapi_Sym.d t14.Syms v92).At)] : List Int) t127 _ (Rd.of_own (hw.up 0)) hx128) ?_
      rintro e wd201 ⟨Aa199, cc200, rfl, hw202⟩
      refine ⟨_, rfl, ?_⟩
      replace hw := hw.call hw202
      clear hs; intro a hs; replace hs := hs.rms [80]
      refine c_done ?_
      refine o_one ?_
      refine c_end ?_
      have hsrc208 : Src Tryd.prog (eI .u8).sz 32 (.slice Aa199 t127.length cc200) t127.length (t127.flatMap (eI .u8).enc) _ := (Src.of_rd (E := (eI .u8)) (e' := 5) (by kernel_rfl) (Rd.of_own (hw.up 0)))
      replace hw := hw.up 2
      obtain ⟨Aa204, cc205, wd206, hx207, hw⟩ := x_append (P := Tryd.prog) (t := 32) (tx := 32) (ty := 32) (x := (Operand.tmp 72)) (y := (Operand.tmp 81)) (z := .int .u8 0) (bytes := 1) (l2 := t127) hs hw (by kernel_rfl) (by kernel_rfl) (by kernel_rfl) (by kernel_rfl) (by kernel_rfl) hsrc208 (by omega) (by omega)
      refine p_run hs (by rfl) hx207 [72, 81] ?_; clear hs; intro a hs
      refine c_done ?_
      refine o_fin ?_
      refine c_pvs [13] [] [82] [(10, .slice Aa204 ((l89 ++ t101) ++ t127).length cc205)] hs ?_; clear hs; intro a hs
      refine c_end ?_
      refine ib_norm ?_
      replace hw := hw.up 15
      replace hw := hw.up 15
      replace hw := hw.up 15
      replace hw := hw.up 15
      replace hw := hw.up 15
      replace hw := hw.up 15
      replace hw := hw.up 15
      replace hw := hw.up 15
      replace hw := hw.up 15
      replace hw := hw.up 15
      replace hw := hw.up 15
      replace hw := hw.up 15
      replace hw := hw.up 12
      replace hw := hw.only 13
      exact hJ1 Aa204 cc205 ((l89 ++ t101) ++ t127) _ _ hs.kx hw H
     ·skip
      obtain ⟨Aa209, cc210, wd211, hx212, hw⟩ := n_lit (P := Tryd.prog) (t := 22) (ty := 22) (T := 37) (len := 1) (parts := #[(0, (Operand.tmp 79))]) (z := .int .u32 0) (bytes := 4) (cells := #[.int .u32 (wu32 ((ix eSapi_Sym.d t14.Syms v92).At))]) hs hw (eI .u32) ([wu32 ((ix eSapi_Sym.d t14.Syms v92).At)] : List Int) (by kernel_rfl) (by kernel_rfl) (by kernel_rfl) (by kernel_rfl) (by kernel_rfl) (by kernel_rfl) (by kernel_rfl)
      refine p_run hs (by rfl) hx212 [79] ?_; clear hs; intro a hs
      refine c_done ?_
      refine o_one ?_
      refine c_end ?_
      have hsrc218 : Src Tryd.prog (eI .u8).sz 32 (.slice Aa104 t101.length cc105) t101.length (t101.flatMap (eI .u8).enc) _ := (Src.of_rd (E := (eI .u8)) (e' := 5) (by kernel_rfl) (Rd.of_own (hw.up 1)))
      replace hw := hw.up 2
      obtain ⟨Aa214, cc215, wd216, hx217, hw⟩ := x_append (P := Tryd.prog) (t := 32) (tx := 32) (ty := 32) (x := (Operand.tmp 70)) (y := (Operand.tmp 71)) (z := .int .u8 0) (bytes := 1) (l2 := t101) hs hw (by kernel_rfl) (by kernel_rfl) (by kernel_rfl) (by kernel_rfl) (by kernel_rfl) hsrc218 (by omega) (by omega)
      refine p_run hs (by rfl) hx217 [10, 70, 71] ?_; clear hs; intro a hs
      refine c_done ?_
      refine o_one ?_
      refine c_end ?_
      refine p_call hs (by rfl) (le_Put.calls Aa209 cc210 ([wu32 ((ix eSapi_Sym.d t14.Syms v92).At)] : List Int) t127 _ (Rd.of_own (hw.up 1)) hx128) ?_
      rintro e wd224 ⟨Aa222, cc223, rfl, hw225⟩
      refine ⟨_, rfl, ?_⟩
      replace hw := hw.call hw225
      clear hs; intro a hs; replace hs := hs.rms [80]
      refine c_done ?_
      refine o_one ?_
      refine c_end ?_
      have hsrc231 : Src Tryd.prog (eI .u8).sz 32 (.slice Aa222 t127.length cc223) t127.length (t127.flatMap (eI .u8).enc) _ := (Src.of_rd (E := (eI .u8)) (e' := 5) (by kernel_rfl) (Rd.of_own (hw.up 0)))
      replace hw := hw.up 1
      obtain ⟨Aa227, cc228, wd229, hx230, hw⟩ := x_append (P := Tryd.prog) (t := 32) (tx := 32) (ty := 32) (x := (Operand.tmp 72)) (y := (Operand.tmp 81)) (z := .int .u8 0) (bytes := 1) (l2 := t127) hs hw (by kernel_rfl) (by kernel_rfl) (by kernel_rfl) (by kernel_rfl) (by kernel_rfl) hsrc231 (by omega) (by omega)
      refine p_run hs (by rfl) hx230 [72, 81] ?_; clear hs; intro a hs
      refine c_done ?_
      refine o_fin ?_
      refine c_pvs [13] [] [82] [(10, .slice Aa227 ((l89 ++ t101) ++ t127).length cc228)] hs ?_; clear hs; intro a hs
      refine c_end ?_
      refine ib_norm ?_
      replace hw := hw.up 15
      replace hw := hw.up 15
      replace hw := hw.up 15
      replace hw := hw.up 15
      replace hw := hw.up 15
      replace hw := hw.up 15
      replace hw := hw.up 15
      replace hw := hw.up 15
      replace hw := hw.up 15
      replace hw := hw.up 15
      replace hw := hw.up 15
      replace hw := hw.up 15
      replace hw := hw.up 12
      replace hw := hw.only 13
      exact hJ1 Aa227 cc228 ((l89 ++ t101) ++ t127) _ _ hs.kx hw H
 ·replace H := ite_f H (of_decide_eq_false hc)
  have hb235 := hc
  rw [hb235] at hs
  refine wp_exit ?_
  refine th_exit ?_
  refine th_exit ?_
  refine in_block ?_
  replace hw := hw.up 12
  replace hw := hw.up 12
  replace hw := hw.up 12
  replace hw := hw.up 12
  replace hw := hw.up 12
  replace hw := hw.up 12
  replace hw := hw.up 12
  replace hw := hw.up 12
  replace hw := hw.up 12
  replace hw := hw.up 12
  replace hw := hw.up 12
  replace hw := hw.up 12
  replace hw := hw.up 12
  rw [← hr88 _ (Option.some.inj H).symm] at HX88
  exact hJ2 Aa90 cc91 l89 _ _ hs.kx hw HX88

end Go.Proofs.YtmfnololpfdfdaaDoor.T09
