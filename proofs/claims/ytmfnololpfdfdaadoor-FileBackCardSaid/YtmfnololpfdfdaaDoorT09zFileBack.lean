/- YtmfnololpfdfdaaDoorT09zFileBack: Go functions told as plain ones, each with a proof that its call comes to what is told, part 1. Condition of each: that the plain function comes to a value. -/
import Derived.Test.YtmfnololpfdfdaaDoorT10
import Derived.Test.YtmfnololpfdfdaaDoorEO
import Derived.Test.YtmfnololpfdfdaaDoorProg
namespace Go.Proofs.YtmfnololpfdfdaaDoor.T09
open Go Go.RowKit Go.Proofs.YtmfnololpfdfdaaDoor.E
set_option linter.unusedVariables false
set_option linter.unusedSimpArgs false
structure Srivetlaw10_Parts where
  Words : List Int
  Bits : List Int
  Names : List ByteArray
def okSrivetlaw10_Parts (x : Srivetlaw10_Parts) : Prop := (∀ n ∈ x.Words, In .u32 n) ∧ x.Words.length * 4 ≤ 140737488351232 ∧ (∀ n ∈ x.Bits, In .u8 n) ∧ x.Bits.length * 1 ≤ 140737488351232 ∧ (∀ n ∈ x.Names, n.size ≤ 140737488351232) ∧ x.Names.length * 16 ≤ 140737488351232
def mSrivetlaw10_Parts (A : Option Addr) (x : Srivetlaw10_Parts) : Asn := fun L => ∃ g A1 c1 A2 c2 A3 c3, A = some ⟨g, 0, none⟩ ∧ Cov [box g 48 [.slice A1 x.Words.length c1, .slice A2 x.Bits.length c2, .slice A3 x.Names.length c3], own 37 (eI .u32) A1 c1 x.Words, own 5 (eI .u8) A2 c2 x.Bits, own 9 eS A3 c3 x.Names] L
theorem mSrivetlaw10_Parts.open {G : List Nat} {w0 w : World} {As : List Asn} {A : Option Addr} {x : Srivetlaw10_Parts} (h : St G w0 w (mSrivetlaw10_Parts A x :: As)) : ∃ g A1 c1 A2 c2 A3 c3, A = some ⟨g, 0, none⟩ ∧ St G w0 w ([box g 48 [.slice A1 x.Words.length c1, .slice A2 x.Bits.length c2, .slice A3 x.Names.length c3], own 37 (eI .u32) A1 c1 x.Words, own 5 (eI .u8) A2 c2 x.Bits, own 9 eS A3 c3 x.Names] ++ As) := by
  obtain ⟨L, ⟨L1, L2, rfl, ⟨g, A1, c1, A2, c2, A3, c3, rfl, hc⟩, hr⟩, hs⟩ := h
  exact ⟨g, A1, c1, A2, c2, A3, c3, rfl, _, Cov.join hr hc, hs⟩
theorem mSrivetlaw10_Parts.open1 {G : List Nat} {w0 w : World} {As : List Asn} {g : Nat} {x : Srivetlaw10_Parts} (h : St G w0 w (mSrivetlaw10_Parts (some ⟨g, 0, none⟩) x :: As)) : ∃ A1 c1 A2 c2 A3 c3, St G w0 w ([box g 48 [.slice A1 x.Words.length c1, .slice A2 x.Bits.length c2, .slice A3 x.Names.length c3], own 37 (eI .u32) A1 c1 x.Words, own 5 (eI .u8) A2 c2 x.Bits, own 9 eS A3 c3 x.Names] ++ As) := by
  obtain ⟨g', A1, c1, A2, c2, A3, c3, hg, h⟩ := mSrivetlaw10_Parts.open h
  cases hg
  exact ⟨A1, c1, A2, c2, A3, c3, h⟩
theorem mSrivetlaw10_Parts.close {G : List Nat} {w0 w : World} {As : List Asn} {g : Nat} {A1 : Option Addr} {c1 : Nat} {A2 : Option Addr} {c2 : Nat} {A3 : Option Addr} {c3 : Nat} {x : Srivetlaw10_Parts} (h : St G w0 w ([box g 48 [.slice A1 x.Words.length c1, .slice A2 x.Bits.length c2, .slice A3 x.Names.length c3], own 37 (eI .u32) A1 c1 x.Words, own 5 (eI .u8) A2 c2 x.Bits, own 9 eS A3 c3 x.Names] ++ As)) : St G w0 w (mSrivetlaw10_Parts (some ⟨g, 0, none⟩) x :: As) := by
  obtain ⟨L, hc, hs⟩ := h
  obtain ⟨L1, L2, rfl, h1, h2⟩ := Cov.split (Gs := [box g 48 [.slice A1 x.Words.length c1, .slice A2 x.Bits.length c2, .slice A3 x.Names.length c3], own 37 (eI .u32) A1 c1 x.Words, own 5 (eI .u8) A2 c2 x.Bits, own 9 eS A3 c3 x.Names]) hc
  exact ⟨_, ⟨L1, L2, rfl, ⟨g, A1, c1, A2, c2, A3, c3, rfl, h1⟩, h2⟩, hs⟩
/-! rivet/rivetlaw10.FileBack: function 8 -/
noncomputable def rivetlaw10_FileBack.j2 (v178 : Bool) : Option Bool := some v178
noncomputable def rivetlaw10_FileBack.j1 (l1 : List Int) (t38 : List Int) (t8 : Bool) (t39 : Int) (t49 : Int) (t48 : Sapi_Obj) (t14 : Sapi_Obj) : Option Bool := (if 0 ≤ (mnn (l1.length : Int) 400) ∧ (mnn (l1.length : Int) 400) ≤ (l1.length : Int) then (if ([] : List Int).length + t38.length ≤ 140737488355328 then (if (([] : List Int) ++ t38).length + (l1.take (mnn (l1.length : Int) 400 : Int).toNat).length ≤ 140737488355328 then ((file_Take ((([] : List Int) ++ t38) ++ (l1.take (mnn (l1.length : Int) 400 : Int).toNat))).bind fun ⟨t144, t145⟩ => ((if t8 = true then (if t39 = 0 then (if t49 = 0 then ((rivetref09_Same t48 t14).bind fun t172 => ((if t172 = true then (if ((t38.length : Int).tmod 4) = 0 then rivetlaw10_FileBack.j2 ((t145 == 4) == (decide (((l1.take (mnn (l1.length : Int) 400 : Int).toNat).length : Int) > 0))) else rivetlaw10_FileBack.j2 false) else rivetlaw10_FileBack.j2 false))) else rivetlaw10_FileBack.j2 false) else rivetlaw10_FileBack.j2 false) else rivetlaw10_FileBack.j2 false))) else none) else none) else none)
noncomputable def rivetlaw10_FileBack.b73 (t38 : List Int) (v74 : Int) : Option (Int ⊕ (Ex Bool Unit)) := (if v74 < (t38.length : Int) then (if 0 ≤ v74 ∧ v74 ≤ (t38.length : Int) then ((file_Take (t38.take (v74 : Int).toNat)).bind fun ⟨t87, t88⟩ => ((if t88 = 3 then some (.inl (w64 (v74 + 1))) else some (.inr (.ret false))))) else none) else some (.inr (.done ())))
noncomputable def rivetlaw10_FileBack (a0 : Srivetlaw10_Parts) (l1 : List Int) : Option Bool := ((rivetlaw10_shown).bind fun t8 => (((rivetref09_Fit a0.Words a0.Bits a0.Names).bind fun t14 => (((file_Put t14).bind fun ⟨t38, t39⟩ => (((file_Take t38).bind fun ⟨t48, t49⟩ => (((loopO (fun (σ : Int) => rivetlaw10_FileBack.b73 t38 σ) 0).bind fun e => match e with | .ret x => some x | .done e => rivetlaw10_FileBack.j1 l1 t38 t8 t39 t49 t48 t14)))))))))
set_option maxRecDepth 100000 in
set_option maxHeartbeats 4000000 in
theorem rivetlaw10_FileBack.calls (a0 : Srivetlaw10_Parts) (A0_1 : Option Addr) (c0_1 : Nat) (A0_2 : Option Addr) (c0_2 : Nat) (A0_3 : Option Addr) (c0_3 : Nat) (A1 : Option Addr) (c1 : Nat) (l1 : List Int) (r : Bool) (w0 : World) (hr0_1 : Rd w0 (eI .u32) A0_1 c0_1 a0.Words) (hr0_2 : Rd w0 (eI .u8) A0_2 c0_2 a0.Bits) (hr0_3 : Rd w0 eS A0_3 c0_3 a0.Names) (hr1 : Rd w0 (eI .u8) A1 c1 l1) (H : rivetlaw10_FileBack a0 l1 = some r) :
    Calls Tryd.prog 8 #[.agg #[.slice A0_1 a0.Words.length c0_1, .slice A0_2 a0.Bits.length c0_2, .slice A0_3 a0.Names.length c0_3], .slice A1 l1.length c1] w0 fun e w' => e = .returned (.bool r) ∧ St [] w0 w' [] := by
 have hw : St [] w0 w0 [] := St.nil w0
 unfold rivetlaw10_FileBack at H
 refine go_fn Tryd.func8 rfl Tryd.ntmps8 ?_; intro a hs
 refine go_sk fun K1 hK1 => ?_
 obtain ⟨g2, wd3, hx4, hw⟩ := x_boxc (P := Tryd.prog) (elem := 48) (v := (Operand.tmp 0)) (ty := 0) (cs := [.slice A0_1 a0.Words.length c0_1, .slice A0_2 a0.Bits.length c0_2, .slice A0_3 a0.Names.length c0_3]) hs hw (by kernel_rfl)
 refine go_run hs (by rfl) hx4 [0] ?_; clear hs; intro a hs
 refine go_pvs 2 [] [] hs ?_; clear hs; intro a hs
 refine go_end (hK1 _ _ ?_)
 refine go_sk fun K6 hK6 => ?_
 obtain ⟨t8, hx9, H⟩ := bind_some H
 refine go_call hs (by rfl) (rivetlaw10_shown.calls t8 _ hx9) ?_
 rintro e wd10 ⟨rfl, hw11⟩
 refine ⟨_, rfl, ?_⟩
 replace hw := hw.call hw11
 clear hs; intro a hs
 refine go_pvs 2 [17] [(5, .bool t8)] hs ?_; clear hs; intro a hs
 refine go_end (hK6 _ _ ?_)
 refine go_sk fun K12 hK12 => ?_
 refine go_pvs 1 [] [(18, .pointer (some (((⟨g2, 0, none⟩ : Addr) : Addr).add 0)))] hs ?_; clear hs; intro a hs
 refine go_run hs (by rfl) (x_bld (g := g2) (o := 0) (p := ((⟨g2, 0, none⟩ : Addr) : Addr).add 0) (v := .slice A0_1 a0.Words.length c0_1) (hw.up 0)) [18] ?_; clear hs; intro a hs
 refine go_pvs 3 [] [(20, .pointer (some (((⟨g2, 0, none⟩ : Addr) : Addr).add 1)))] hs ?_; clear hs; intro a hs
 refine go_run hs (by rfl) (x_bld (g := g2) (o := 1) (p := ((⟨g2, 0, none⟩ : Addr) : Addr).add 1) (v := .slice A0_2 a0.Bits.length c0_2) (hw.up 0)) [20] ?_; clear hs; intro a hs
 refine go_pvs 5 [2] [(22, .pointer (some (((⟨g2, 0, none⟩ : Addr) : Addr).add 2)))] hs ?_; clear hs; intro a hs
 refine go_run hs (by rfl) (x_bld (g := g2) (o := 2) (p := ((⟨g2, 0, none⟩ : Addr) : Addr).add 2) (v := .slice A0_3 a0.Names.length c0_3) (hw.up 0)) [22] ?_; clear hs; intro a hs
 obtain ⟨t14, hx15, H⟩ := bind_some H
 refine go_call hs (by rfl) (rivetref09_Fit.calls A0_1 c0_1 a0.Words A0_2 c0_2 a0.Bits A0_3 c0_3 a0.Names t14 _ (hr0_1.old hw) (hr0_2.old hw) (hr0_3.old hw) hx15) ?_
 rintro e wd22 ⟨Aa16, cc17, Aa18, cc19, Aa20, cc21, rfl, hw23⟩
 refine ⟨_, rfl, ?_⟩
 replace hw := hw.call hw23
 clear hs; intro a hs; replace hs := hs.rms [19, 21, 23]
 obtain ⟨g27, wd28, hx29, hw⟩ := x_allocc (P := Tryd.prog) (elem := 26) (ty := 0) (z := .agg #[.slice none 0 0, .slice none 0 0, .slice none 0 0]) (cs := [.slice none 0 0, .slice none 0 0, .slice none 0 0]) hs hw (by kernel_rfl) (by kernel_rfl)
 refine go_run hs (by rfl) hx29 [] ?_; clear hs; intro a hs
 replace hw := St.own_nil hw 37 (eI .u32)
 replace hw := St.own_nil hw 3 (eI .i64)
 replace hw := St.own_nil hw 39 eSapi_Sym
 replace hw : St [] w0 wd28 [own 39 eSapi_Sym none 0 ([] : List Sapi_Sym), own 3 (eI .i64) none 0 ([] : List Int), own 37 (eI .u32) none 0 ([] : List Int), box g27 26 [.slice none ([] : List Int).length 0, .slice none ([] : List Int).length 0, .slice none ([] : List Sapi_Sym).length 0], own 37 (eI .u32) Aa16 cc17 t14.Words, own 3 (eI .i64) Aa18 cc19 t14.Sites, own 39 eSapi_Sym Aa20 cc21 t14.Syms, box g2 48 [.slice A0_1 a0.Words.length c0_1, .slice A0_2 a0.Bits.length c0_2, .slice A0_3 a0.Names.length c0_3]] := hw
 replace hw := hw.up 3
 obtain ⟨wd34, hx35, hw⟩ := x_bput (P := Tryd.prog) (ty := 0) (t := 26) (y := (Operand.tmp 6)) (z := (Operand.tmp 24)) (o := 0) (p := (⟨g27, 0, none⟩ : Addr)) (v := .agg #[.slice Aa16 t14.Words.length cc17, .slice Aa18 t14.Sites.length cc19, .slice Aa20 t14.Syms.length cc21]) (vs := [.slice Aa16 t14.Words.length cc17, .slice Aa18 t14.Sites.length cc19, .slice Aa20 t14.Syms.length cc21]) (cs' := [.slice Aa16 t14.Words.length cc17, .slice Aa18 t14.Sites.length cc19, .slice Aa20 t14.Syms.length cc21]) hs hw (by kernel_rfl) rfl (by kernel_rfl) rfl (by kernel_rfl) (by kernel_rfl) (by simp [Value.oneCell']) rfl
 refine go_unit hs (by rfl) hx35 [24] ?_; clear hs; intro a hs
 refine go_end (hK12 _ _ ?_)
 refine go_sk fun K36 hK36 => ?_
 refine go_run hs (by rfl) (x_blds (g := g27) (o := 0) (p := (⟨g27, 0, none⟩ : Addr)) (vs := [.slice Aa16 t14.Words.length cc17, .slice Aa18 t14.Sites.length cc19, .slice Aa20 t14.Syms.length cc21]) (hw.up 0)) [] ?_; clear hs; intro a hs
 obtain ⟨⟨t38, t39⟩, hx40, H⟩ := bind_some H
 refine go_call hs (by rfl) (file_Put.calls t14 Aa16 cc17 Aa18 cc19 Aa20 cc21 (t38, t39) _ (Rd.of_own (hw.up 4)) (Rd.of_own (hw.up 5)) (Rd.of_own (hw.up 6)) hx40) ?_
 rintro e wd43 ⟨Aa41, cc42, rfl, hw44⟩
 refine ⟨_, rfl, ?_⟩
 replace hw := hw.call hw44
 clear hs; intro a hs; replace hs := hs.rms [26]
 refine go_pvs 7 [27] [(7, .slice Aa41 t38.length cc42), (8, .int .i64 t39)] hs ?_; clear hs; intro a hs
 refine go_end (hK36 _ _ ?_)
 refine go_sk fun K46 hK46 => ?_
 refine go_pvs 1 [] [(31, .slice Aa41 t38.length cc42)] hs ?_; clear hs; intro a hs
 obtain ⟨⟨t48, t49⟩, hx50, H⟩ := bind_some H
 refine go_call hs (by rfl) (file_Take.calls Aa41 cc42 t38 (t48, t49) _ (Rd.of_own (hw.up 0)) hx50) ?_
 rintro e wd57 ⟨Aa51, cc52, Aa53, cc54, Aa55, cc56, rfl, hw58⟩
 refine ⟨_, rfl, ?_⟩
 replace hw := hw.call hw58
 clear hs; intro a hs; replace hs := hs.rms [31]
 refine go_pvs 5 [32] [(33, .agg #[.slice Aa51 t48.Words.length cc52, .slice Aa53 t48.Sites.length cc54, .slice Aa55 t48.Syms.length cc56]), (34, .int .i64 t49)] hs ?_; clear hs; intro a hs
 obtain ⟨g62, wd63, hx64, hw⟩ := x_allocc (P := Tryd.prog) (elem := 26) (ty := 0) (z := .agg #[.slice none 0 0, .slice none 0 0, .slice none 0 0]) (cs := [.slice none 0 0, .slice none 0 0, .slice none 0 0]) hs hw (by kernel_rfl) (by kernel_rfl)
 refine go_run hs (by rfl) hx64 [] ?_; clear hs; intro a hs
 replace hw := St.own_nil hw 37 (eI .u32)
 replace hw := St.own_nil hw 3 (eI .i64)
 replace hw := St.own_nil hw 39 eSapi_Sym
 replace hw : St [] w0 wd63 [own 39 eSapi_Sym none 0 ([] : List Sapi_Sym), own 3 (eI .i64) none 0 ([] : List Int), own 37 (eI .u32) none 0 ([] : List Int), box g62 26 [.slice none ([] : List Int).length 0, .slice none ([] : List Int).length 0, .slice none ([] : List Sapi_Sym).length 0], own 37 (eI .u32) Aa51 cc52 t48.Words, own 3 (eI .i64) Aa53 cc54 t48.Sites, own 39 eSapi_Sym Aa55 cc56 t48.Syms, own 5 (eI .u8) Aa41 cc42 t38, box g27 26 [.slice Aa16 t14.Words.length cc17, .slice Aa18 t14.Sites.length cc19, .slice Aa20 t14.Syms.length cc21], own 39 eSapi_Sym none 0 ([] : List Sapi_Sym), own 3 (eI .i64) none 0 ([] : List Int), own 37 (eI .u32) none 0 ([] : List Int), own 37 (eI .u32) Aa16 cc17 t14.Words, own 3 (eI .i64) Aa18 cc19 t14.Sites, own 39 eSapi_Sym Aa20 cc21 t14.Syms, box g2 48 [.slice A0_1 a0.Words.length c0_1, .slice A0_2 a0.Bits.length c0_2, .slice A0_3 a0.Names.length c0_3]] := hw
 replace hw := hw.up 3
 obtain ⟨wd69, hx70, hw⟩ := x_bput (P := Tryd.prog) (ty := 0) (t := 26) (y := (Operand.tmp 9)) (z := (Operand.tmp 33)) (o := 0) (p := (⟨g62, 0, none⟩ : Addr)) (v := .agg #[.slice Aa51 t48.Words.length cc52, .slice Aa53 t48.Sites.length cc54, .slice Aa55 t48.Syms.length cc56]) (vs := [.slice Aa51 t48.Words.length cc52, .slice Aa53 t48.Sites.length cc54, .slice Aa55 t48.Syms.length cc56]) (cs' := [.slice Aa51 t48.Words.length cc52, .slice Aa53 t48.Sites.length cc54, .slice Aa55 t48.Syms.length cc56]) hs hw (by kernel_rfl) rfl (by kernel_rfl) rfl (by kernel_rfl) (by kernel_rfl) (by simp [Value.oneCell']) rfl
 refine go_unit hs (by rfl) hx70 [33] ?_; clear hs; intro a hs
 refine go_pvs 8 [34] [(10, .int .i64 t49)] hs ?_; clear hs; intro a hs
 refine go_end (hK46 _ _ ?_)
 refine go_seq_k fun K71 hK71 => ?_
 refine go_sp [] [(11, .int .i64 0)] hs ?_; clear hs; intro a hs
 refine wp_block ?_
 obtain ⟨e73, hl73, HX73⟩ := bind_some H
 have hJ1 : ∀ (a : Act) (w : World), Slots a 89 [(1, .slice A1 l1.length c1), (5, .bool t8), (6, .pointer (some (⟨g27, 0, none⟩ : Addr))), (7, .slice Aa41 t38.length cc42), (8, .int .i64 t39), (9, .pointer (some (⟨g62, 0, none⟩ : Addr))), (10, .int .i64 t49)] → St [] w0 w [box g62 26 [.slice Aa51 t48.Words.length cc52, .slice Aa53 t48.Sites.length cc54, .slice Aa55 t48.Syms.length cc56], own 39 eSapi_Sym none 0 ([] : List Sapi_Sym), own 3 (eI .i64) none 0 ([] : List Int), own 37 (eI .u32) none 0 ([] : List Int), own 37 (eI .u32) Aa51 cc52 t48.Words, own 3 (eI .i64) Aa53 cc54 t48.Sites, own 39 eSapi_Sym Aa55 cc56 t48.Syms, own 5 (eI .u8) Aa41 cc42 t38, box g27 26 [.slice Aa16 t14.Words.length cc17, .slice Aa18 t14.Sites.length cc19, .slice Aa20 t14.Syms.length cc21], own 39 eSapi_Sym none 0 ([] : List Sapi_Sym), own 3 (eI .i64) none 0 ([] : List Int), own 37 (eI .u32) none 0 ([] : List Int), own 37 (eI .u32) Aa16 cc17 t14.Words, own 3 (eI .i64) Aa18 cc19 t14.Sites, own 39 eSapi_Sym Aa20 cc21 t14.Syms, box g2 48 [.slice A0_1 a0.Words.length c0_1, .slice A0_2 a0.Bits.length c0_2, .slice A0_3 a0.Names.length c0_3]] → rivetlaw10_FileBack.j1 l1 t38 t8 t39 t49 t48 t14 = some r → K71 a w := by
  intro a w hs hw H
  unfold rivetlaw10_FileBack.j1 at H
  refine hK71 _ _ ?_
  refine go_sk fun K115 hK115 => ?_
  refine go_pvs 1 [1] [(50, .slice A1 l1.length c1)] hs ?_; clear hs; intro a hs
  refine go_inline_k hs (by rfl) (f := 25) (args := #[.slice A1 l1.length c1]) (fun KR116 hKR116 => ?_)
  refine go_fn Tryd.func25 rfl Tryd.ntmps25 ?_; clear hs; intro a hs
  refine go_sp [] [] hs ?_; clear hs; intro a hs
  refine go_sk fun K118 hK118 => ?_
  refine go_pvs 4 [0] [(3, .slice A1 l1.length c1), (6, .int .i64 (mnn (l1.length : Int) 400))] hs ?_; clear hs; intro a hs
  obtain ⟨hp119, H⟩ := ite_only H
  obtain ⟨Aa120, cc121, hx122, hc123⟩ := c_hi (P := Tryd.prog) (ty := 32) (E := (eI .u8)) (T := 5) (t := 32) (x := (Operand.tmp 3)) (y := (Operand.tmp 6)) (k := .i64) hs (by kernel_rfl) (by kernel_rfl) (hr1.old hw) (by kernel_rfl) (by kernel_rfl) hp119.1 hp119.2
  refine go_run hs (by rfl) hx122 [3, 6] ?_; clear hs; intro a hs
  refine go_pvs 6 [7] [(2, .slice Aa120 (l1.take (mnn (l1.length : Int) 400 : Int).toNat).length cc121)] hs ?_; clear hs; intro a hs
  refine go_end (hK118 _ _ ?_)
  refine wp_ret ?_
  refine ret1 (t := 2) (v := .slice Aa120 (l1.take (mnn (l1.length : Int) 400 : Int).toNat).length cc121) hs (by kernel_rfl) (by kernel_rfl) ?_
  refine ⟨_, rfl, ?_⟩
  refine hKR116 _ _ ?_
  intro a hs1; have hs : Slots a _ [(5, .bool t8), (6, .pointer (some (⟨g27, 0, none⟩ : Addr))), (7, .slice Aa41 t38.length cc42), (8, .int .i64 t39), (9, .pointer (some (⟨g62, 0, none⟩ : Addr))), (10, .int .i64 t49), (51, .slice Aa120 (l1.take (mnn (l1.length : Int) 400 : Int).toNat).length cc121)] := hs1.kx; clear hs1
  refine go_pvs 3 [51] [(14, .slice Aa120 (l1.take (mnn (l1.length : Int) 400 : Int).toNat).length cc121)] hs ?_; clear hs; intro a hs
  refine go_end (hK115 _ _ ?_)
  refine go_sk fun K125 hK125 => ?_
  obtain ⟨Aa126, cc127, wd128, hx129, hw⟩ := n_lit0 (P := Tryd.prog) (t := 32) (ty := 32) (T := 5) hs hw (eI .u8) (by kernel_rfl) (by kernel_rfl)
  refine go_run hs (by rfl) hx129 [] ?_; clear hs; intro a hs
  refine go_pvs 2 [] [(54, .slice Aa41 t38.length cc42)] hs ?_; clear hs; intro a hs
  obtain ⟨hp131, H⟩ := ite_only H
  have hsrc136 : Src Tryd.prog (eI .u8).sz 32 (.slice Aa41 t38.length cc42) t38.length (t38.flatMap (eI .u8).enc) _ := (Src.of_rd (E := (eI .u8)) (e' := 5) (by kernel_rfl) (Rd.of_own (hw.up 8)))
  obtain ⟨Aa132, cc133, wd134, hx135, hw⟩ := x_append (P := Tryd.prog) (t := 32) (tx := 32) (ty := 32) (x := (Operand.tmp 53)) (y := (Operand.tmp 54)) (z := .int .u8 0) (bytes := 1) (l2 := t38) hs hw (by kernel_rfl) (by kernel_rfl) (by kernel_rfl) (by kernel_rfl) (by kernel_rfl) hsrc136 (by omega) (by omega)
  refine go_run hs (by rfl) hx135 [53, 54] ?_; clear hs; intro a hs
  refine go_pvs 4 [] [(56, .slice Aa120 (l1.take (mnn (l1.length : Int) 400 : Int).toNat).length cc121)] hs ?_; clear hs; intro a hs
  obtain ⟨hp137, H⟩ := ite_only H
  have hsrc142 : Src Tryd.prog (eI .u8).sz 32 (.slice Aa120 (l1.take (mnn (l1.length : Int) 400 : Int).toNat).length cc121) (l1.take (mnn (l1.length : Int) 400 : Int).toNat).length ((l1.take (mnn (l1.length : Int) 400 : Int).toNat).flatMap (eI .u8).enc) _ := (Src.of_rd (E := (eI .u8)) (e' := 5) (by kernel_rfl) (hc123 _ (hr1.old hw)))
  obtain ⟨Aa138, cc139, wd140, hx141, hw⟩ := x_append (P := Tryd.prog) (t := 32) (tx := 32) (ty := 32) (x := (Operand.tmp 55)) (y := (Operand.tmp 56)) (z := .int .u8 0) (bytes := 1) (l2 := l1.take (mnn (l1.length : Int) 400 : Int).toNat) hs hw (by kernel_rfl) (by kernel_rfl) (by kernel_rfl) (by kernel_rfl) (by kernel_rfl) hsrc142 (by omega) (by omega)
  refine go_run hs (by rfl) hx141 [55, 56] ?_; clear hs; intro a hs
  obtain ⟨⟨t144, t145⟩, hx146, H⟩ := bind_some H
  refine go_call hs (by rfl) (file_Take.calls Aa138 cc139 ((([] : List Int) ++ t38) ++ (l1.take (mnn (l1.length : Int) 400 : Int).toNat)) (t144, t145) _ (Rd.of_own (hw.up 0)) hx146) ?_
  rintro e wd153 ⟨Aa147, cc148, Aa149, cc150, Aa151, cc152, rfl, hw154⟩
  refine ⟨_, rfl, ?_⟩
  replace hw := hw.call hw154
  clear hs; intro a hs; replace hs := hs.rms [57]
  refine go_pvs 9 [58] [(59, .agg #[.slice Aa147 t144.Words.length cc148, .slice Aa149 t144.Sites.length cc150, .slice Aa151 t144.Syms.length cc152]), (60, .int .i64 t145)] hs ?_; clear hs; intro a hs
  obtain ⟨g158, wd159, hx160, hw⟩ := x_allocc (P := Tryd.prog) (elem := 26) (ty := 0) (z := .agg #[.slice none 0 0, .slice none 0 0, .slice none 0 0]) (cs := [.slice none 0 0, .slice none 0 0, .slice none 0 0]) hs hw (by kernel_rfl) (by kernel_rfl)
  refine go_run hs (by rfl) hx160 [] ?_; clear hs; intro a hs
  replace hw := St.own_nil hw 37 (eI .u32)
  replace hw := St.own_nil hw 3 (eI .i64)
  replace hw := St.own_nil hw 39 eSapi_Sym
  replace hw : St [] w0 wd159 [own 39 eSapi_Sym none 0 ([] : List Sapi_Sym), own 3 (eI .i64) none 0 ([] : List Int), own 37 (eI .u32) none 0 ([] : List Int), box g158 26 [.slice none ([] : List Int).length 0, .slice none ([] : List Int).length 0, .slice none ([] : List Sapi_Sym).length 0], own 37 (eI .u32) Aa147 cc148 t144.Words, own 3 (eI .i64) Aa149 cc150 t144.Sites, own 39 eSapi_Sym Aa151 cc152 t144.Syms, own 5 (eI .u8) Aa138 cc139 ((([] : List Int) ++ t38) ++ (l1.take (mnn (l1.length : Int) 400 : Int).toNat)), box g62 26 [.slice Aa51 t48.Words.length cc52, .slice Aa53 t48.Sites.length cc54, .slice Aa55 t48.Syms.length cc56], own 39 eSapi_Sym none 0 ([] : List Sapi_Sym), own 3 (eI .i64) none 0 ([] : List Int), own 37 (eI .u32) none 0 ([] : List Int), own 37 (eI .u32) Aa51 cc52 t48.Words, own 3 (eI .i64) Aa53 cc54 t48.Sites, own 39 eSapi_Sym Aa55 cc56 t48.Syms, own 5 (eI .u8) Aa41 cc42 t38, box g27 26 [.slice Aa16 t14.Words.length cc17, .slice Aa18 t14.Sites.length cc19, .slice Aa20 t14.Syms.length cc21], own 39 eSapi_Sym none 0 ([] : List Sapi_Sym), own 3 (eI .i64) none 0 ([] : List Int), own 37 (eI .u32) none 0 ([] : List Int), own 37 (eI .u32) Aa16 cc17 t14.Words, own 3 (eI .i64) Aa18 cc19 t14.Sites, own 39 eSapi_Sym Aa20 cc21 t14.Syms, box g2 48 [.slice A0_1 a0.Words.length c0_1, .slice A0_2 a0.Bits.length c0_2, .slice A0_3 a0.Names.length c0_3]] := hw
  replace hw := hw.up 3
  obtain ⟨wd165, hx166, hw⟩ := x_bput (P := Tryd.prog) (ty := 0) (t := 26) (y := (Operand.tmp 15)) (z := (Operand.tmp 59)) (o := 0) (p := (⟨g158, 0, none⟩ : Addr)) (v := .agg #[.slice Aa147 t144.Words.length cc148, .slice Aa149 t144.Sites.length cc150, .slice Aa151 t144.Syms.length cc152]) (vs := [.slice Aa147 t144.Words.length cc148, .slice Aa149 t144.Sites.length cc150, .slice Aa151 t144.Syms.length cc152]) (cs' := [.slice Aa147 t144.Words.length cc148, .slice Aa149 t144.Sites.length cc150, .slice Aa151 t144.Syms.length cc152]) hs hw (by kernel_rfl) rfl (by kernel_rfl) rfl (by kernel_rfl) (by kernel_rfl) (by simp [Value.oneCell']) rfl
  refine go_unit hs (by rfl) hx166 [15, 59] ?_; clear hs; intro a hs
  refine go_pvs 12 [60] [(16, .int .i64 t145)] hs ?_; clear hs; intro a hs
  refine go_end (hK125 _ _ ?_)
  refine go_seq_k fun K167 hK167 => ?_
  have hJ2 : ∀ (v178 : Bool) (a : Act) (w : World), Slots a 89 [(4, .bool v178)] → St [] w0 w [box g158 26 [.slice Aa147 t144.Words.length cc148, .slice Aa149 t144.Sites.length cc150, .slice Aa151 t144.Syms.length cc152], own 39 eSapi_Sym none 0 ([] : List Sapi_Sym), own 3 (eI .i64) none 0 ([] : List Int), own 37 (eI .u32) none 0 ([] : List Int), own 37 (eI .u32) Aa147 cc148 t144.Words, own 3 (eI .i64) Aa149 cc150 t144.Sites, own 39 eSapi_Sym Aa151 cc152 t144.Syms, own 5 (eI .u8) Aa138 cc139 ((([] : List Int) ++ t38) ++ (l1.take (mnn (l1.length : Int) 400 : Int).toNat)), box g62 26 [.slice Aa51 t48.Words.length cc52, .slice Aa53 t48.Sites.length cc54, .slice Aa55 t48.Syms.length cc56], own 39 eSapi_Sym none 0 ([] : List Sapi_Sym), own 3 (eI .i64) none 0 ([] : List Int), own 37 (eI .u32) none 0 ([] : List Int), own 37 (eI .u32) Aa51 cc52 t48.Words, own 3 (eI .i64) Aa53 cc54 t48.Sites, own 39 eSapi_Sym Aa55 cc56 t48.Syms, own 5 (eI .u8) Aa41 cc42 t38, box g27 26 [.slice Aa16 t14.Words.length cc17, .slice Aa18 t14.Sites.length cc19, .slice Aa20 t14.Syms.length cc21], own 39 eSapi_Sym none 0 ([] : List Sapi_Sym), own 3 (eI .i64) none 0 ([] : List Int), own 37 (eI .u32) none 0 ([] : List Int), own 37 (eI .u32) Aa16 cc17 t14.Words, own 3 (eI .i64) Aa18 cc19 t14.Sites, own 39 eSapi_Sym Aa20 cc21 t14.Syms, box g2 48 [.slice A0_1 a0.Words.length c0_1, .slice A0_2 a0.Bits.length c0_2, .slice A0_3 a0.Names.length c0_3]] → rivetlaw10_FileBack.j2 v178 = some r → K167 a w := by
   intro v178 a w hs hw H
   unfold rivetlaw10_FileBack.j2 at H
   refine hK167 _ _ ?_
   refine wp_ret ?_
   obtain rfl := Option.some.inj H
   refine ret1 (t := 4) (v := .bool v178) hs (by kernel_rfl) (by kernel_rfl) ?_
   exact ⟨rfl, hw.only 0⟩
  refine go_region ?_
  refine go_pvs 2 [5] [(62, .bool t8)] hs ?_; clear hs; intro a hs
  cases hb168 : t8
  ·replace H := ite_f H (ff hb168)
   rw [hb168] at hs
   refine go_pvs 29 [6, 7, 8, 9, 10, 14, 16, 62] [(4, .bool false)] hs ?_; clear hs; intro a hs
   refine go_end ?_
   replace hw := hw.up 23
   replace hw := hw.up 23
   replace hw := hw.up 23
   replace hw := hw.up 23
   replace hw := hw.up 23
   replace hw := hw.up 23
   replace hw := hw.up 23
   replace hw := hw.up 23
   replace hw := hw.up 23
   replace hw := hw.up 23
   replace hw := hw.up 23
   replace hw := hw.up 23
   replace hw := hw.up 23
   replace hw := hw.up 23
   replace hw := hw.up 23
   replace hw := hw.up 23
   replace hw := hw.up 23
   replace hw := hw.up 23
   replace hw := hw.up 23
   replace hw := hw.up 23
   replace hw := hw.up 23
   replace hw := hw.up 23
   replace hw := hw.up 23
   replace hw := hw.up 23
   exact hJ2 false _ _ hs.kx hw H
  ·replace H := ite_t H hb168
   rw [hb168] at hs
   refine go_pvs 6 [8, 62] [(66, .bool (t39 == 0))] hs ?_; clear hs; intro a hs
   cases hb169 : (t39 == 0)
   ·replace H := ite_f H (beq_eq_false_iff_ne.1 hb169)
    rw [hb169] at hs
    refine go_pvs 29 [6, 7, 9, 10, 14, 16, 66] [(4, .bool false)] hs ?_; clear hs; intro a hs
    refine go_end ?_
    replace hw := hw.up 23
    replace hw := hw.up 23
    replace hw := hw.up 23
    replace hw := hw.up 23
    replace hw := hw.up 23
    replace hw := hw.up 23
    replace hw := hw.up 23
    replace hw := hw.up 23
    replace hw := hw.up 23
    replace hw := hw.up 23
    replace hw := hw.up 23
    replace hw := hw.up 23
    replace hw := hw.up 23
    replace hw := hw.up 23
    replace hw := hw.up 23
    replace hw := hw.up 23
    replace hw := hw.up 23
    replace hw := hw.up 23
    replace hw := hw.up 23
    replace hw := hw.up 23
    replace hw := hw.up 23
    replace hw := hw.up 23
    replace hw := hw.up 23
    replace hw := hw.up 23
    exact hJ2 false _ _ hs.kx hw H
   ·replace H := ite_t H (beq_iff_eq.1 hb169)
    rw [hb169] at hs
    refine go_pvs 10 [10, 66] [(70, .bool (t49 == 0))] hs ?_; clear hs; intro a hs
    cases hb170 : (t49 == 0)
    ·replace H := ite_f H (beq_eq_false_iff_ne.1 hb170)
     rw [hb170] at hs
     refine go_pvs 29 [6, 7, 9, 14, 16, 70] [(4, .bool false)] hs ?_; clear hs; intro a hs
     refine go_end ?_
     replace hw := hw.up 23
     replace hw := hw.up 23
     replace hw := hw.up 23
     replace hw := hw.up 23
     replace hw := hw.up 23
     replace hw := hw.up 23
     replace hw := hw.up 23
     replace hw := hw.up 23
     replace hw := hw.up 23
     replace hw := hw.up 23
     replace hw := hw.up 23
     replace hw := hw.up 23
     replace hw := hw.up 23
     replace hw := hw.up 23
     replace hw := hw.up 23
     replace hw := hw.up 23
     replace hw := hw.up 23
     replace hw := hw.up 23
     replace hw := hw.up 23
     replace hw := hw.up 23
     replace hw := hw.up 23
     replace hw := hw.up 23
     replace hw := hw.up 23
     replace hw := hw.up 23
     exact hJ2 false _ _ hs.kx hw H
    ·replace H := ite_t H (beq_iff_eq.1 hb170)
     rw [hb170] at hs
     refine go_run hs (by rfl) (x_blds (g := g62) (o := 0) (p := (⟨g62, 0, none⟩ : Addr)) (vs := [.slice Aa51 t48.Words.length cc52, .slice Aa53 t48.Sites.length cc54, .slice Aa55 t48.Syms.length cc56]) (hw.up 8)) [9] ?_; clear hs; intro a hs
     refine go_run hs (by rfl) (x_blds (g := g27) (o := 0) (p := (⟨g27, 0, none⟩ : Addr)) (vs := [.slice Aa16 t14.Words.length cc17, .slice Aa18 t14.Sites.length cc19, .slice Aa20 t14.Syms.length cc21]) (hw.up 16)) [6] ?_; clear hs; intro a hs
     obtain ⟨t172, hx173, H⟩ := bind_some H
     refine go_call hs (by rfl) (rivetref09_Same.calls t48 Aa51 cc52 Aa53 cc54 Aa55 cc56 t14 Aa16 cc17 Aa18 cc19 Aa20 cc21 t172 _ (Rd.of_own (hw.up 12)) (Rd.of_own (hw.up 13)) (Rd.of_own (hw.up 14)) (Rd.of_own (hw.up 20)) (Rd.of_own (hw.up 21)) (Rd.of_own (hw.up 22)) hx173) ?_
     rintro e wd174 ⟨rfl, hw175⟩
     refine ⟨_, rfl, ?_⟩
     replace hw := hw.call hw175
     clear hs; intro a hs; replace hs := hs.rms [71, 72]
     refine go_pvs 15 [70, 73] [(75, .bool t172)] hs ?_; clear hs; intro a hs
     cases hb176 : t172
     ·replace H := ite_f H (ff hb176)
      rw [hb176] at hs
      refine go_pvs 29 [7, 14, 16, 75] [(4, .bool false)] hs ?_; clear hs; intro a hs
      refine go_end ?_
      replace hw := hw.up 23
      replace hw := hw.up 23
      replace hw := hw.up 23
      replace hw := hw.up 23
      replace hw := hw.up 23
      replace hw := hw.up 23
      replace hw := hw.up 23
      replace hw := hw.up 23
      replace hw := hw.up 23
      replace hw := hw.up 23
      replace hw := hw.up 23
      replace hw := hw.up 23
      replace hw := hw.up 23
      replace hw := hw.up 23
      replace hw := hw.up 23
      replace hw := hw.up 23
      replace hw := hw.up 23
      replace hw := hw.up 23
      replace hw := hw.up 23
      replace hw := hw.up 23
      replace hw := hw.up 23
      replace hw := hw.up 23
      replace hw := hw.up 23
      replace hw := hw.up 23
      exact hJ2 false _ _ hs.kx hw H
     ·replace H := ite_t H hb176
      rw [hb176] at hs
      refine go_pvs 21 [7, 75] [(81, .bool (((t38.length : Int).tmod 4) == 0))] hs ?_; clear hs; intro a hs
      cases hb177 : (((t38.length : Int).tmod 4) == 0)
      ·replace H := ite_f H (beq_eq_false_iff_ne.1 hb177)
       rw [hb177] at hs
       refine go_pvs 29 [14, 16, 81] [(4, .bool false)] hs ?_; clear hs; intro a hs
       refine go_end ?_
       replace hw := hw.up 23
       replace hw := hw.up 23
       replace hw := hw.up 23
       replace hw := hw.up 23
       replace hw := hw.up 23
       replace hw := hw.up 23
       replace hw := hw.up 23
       replace hw := hw.up 23
       replace hw := hw.up 23
       replace hw := hw.up 23
       replace hw := hw.up 23
       replace hw := hw.up 23
       replace hw := hw.up 23
       replace hw := hw.up 23
       replace hw := hw.up 23
       replace hw := hw.up 23
       replace hw := hw.up 23
       replace hw := hw.up 23
       replace hw := hw.up 23
       replace hw := hw.up 23
       replace hw := hw.up 23
       replace hw := hw.up 23
       replace hw := hw.up 23
       replace hw := hw.up 23
       exact hJ2 false _ _ hs.kx hw H
      ·replace H := ite_t H (beq_iff_eq.1 hb177)
       rw [hb177] at hs
       refine go_pvs 29 [14, 16, 81] [(4, .bool ((t145 == 4) == (decide (((l1.take (mnn (l1.length : Int) 400 : Int).toNat).length : Int) > 0))))] hs ?_; clear hs; intro a hs
       refine go_end ?_
       replace hw := hw.up 23
       replace hw := hw.up 23
       replace hw := hw.up 23
       replace hw := hw.up 23
       replace hw := hw.up 23
       replace hw := hw.up 23
       replace hw := hw.up 23
       replace hw := hw.up 23
       replace hw := hw.up 23
       replace hw := hw.up 23
       replace hw := hw.up 23
       replace hw := hw.up 23
       replace hw := hw.up 23
       replace hw := hw.up 23
       replace hw := hw.up 23
       replace hw := hw.up 23
       replace hw := hw.up 23
       replace hw := hw.up 23
       replace hw := hw.up 23
       replace hw := hw.up 23
       replace hw := hw.up 23
       replace hw := hw.up 23
       replace hw := hw.up 23
       replace hw := hw.up 23
       exact hJ2 ((t145 == 4) == (decide (((l1.take (mnn (l1.length : Int) 400 : Int).toNat).length : Int) > 0))) _ _ hs.kx hw H
 clear H
 refine go_loop (σ := Int) (fun σ a w => Slots a 89 [(1, .slice A1 l1.length c1), (5, .bool t8), (6, .pointer (some (⟨g27, 0, none⟩ : Addr))), (7, .slice Aa41 t38.length cc42), (8, .int .i64 t39), (9, .pointer (some (⟨g62, 0, none⟩ : Addr))), (10, .int .i64 t49), (11, .int .i64 σ)] ∧ St [] w0 w [box g62 26 [.slice Aa51 t48.Words.length cc52, .slice Aa53 t48.Sites.length cc54, .slice Aa55 t48.Syms.length cc56], own 39 eSapi_Sym none 0 ([] : List Sapi_Sym), own 3 (eI .i64) none 0 ([] : List Int), own 37 (eI .u32) none 0 ([] : List Int), own 37 (eI .u32) Aa51 cc52 t48.Words, own 3 (eI .i64) Aa53 cc54 t48.Sites, own 39 eSapi_Sym Aa55 cc56 t48.Syms, own 5 (eI .u8) Aa41 cc42 t38, box g27 26 [.slice Aa16 t14.Words.length cc17, .slice Aa18 t14.Sites.length cc19, .slice Aa20 t14.Syms.length cc21], own 39 eSapi_Sym none 0 ([] : List Sapi_Sym), own 3 (eI .i64) none 0 ([] : List Int), own 37 (eI .u32) none 0 ([] : List Int), own 37 (eI .u32) Aa16 cc17 t14.Words, own 3 (eI .i64) Aa18 cc19 t14.Sites, own 39 eSapi_Sym Aa20 cc21 t14.Syms, box g2 48 [.slice A0_1 a0.Words.length c0_1, .slice A0_2 a0.Bits.length c0_2, .slice A0_3 a0.Names.length c0_3]]) hl73 (by exact ⟨hs.kx, hw⟩) ?_
 rintro v74 a w ⟨hs, hw⟩ o H hr73
 replace hs : Slots a 89 [(1, .slice A1 l1.length c1), (5, .bool t8), (6, .pointer (some (⟨g27, 0, none⟩ : Addr))), (7, .slice Aa41 t38.length cc42), (8, .int .i64 t39), (9, .pointer (some (⟨g62, 0, none⟩ : Addr))), (10, .int .i64 t49), (11, .int .i64 v74)] := hs
 replace hw : St [] w0 w [box g62 26 [.slice Aa51 t48.Words.length cc52, .slice Aa53 t48.Sites.length cc54, .slice Aa55 t48.Syms.length cc56], own 39 eSapi_Sym none 0 ([] : List Sapi_Sym), own 3 (eI .i64) none 0 ([] : List Int), own 37 (eI .u32) none 0 ([] : List Int), own 37 (eI .u32) Aa51 cc52 t48.Words, own 3 (eI .i64) Aa53 cc54 t48.Sites, own 39 eSapi_Sym Aa55 cc56 t48.Syms, own 5 (eI .u8) Aa41 cc42 t38, box g27 26 [.slice Aa16 t14.Words.length cc17, .slice Aa18 t14.Sites.length cc19, .slice Aa20 t14.Syms.length cc21], own 39 eSapi_Sym none 0 ([] : List Sapi_Sym), own 3 (eI .i64) none 0 ([] : List Int), own 37 (eI .u32) none 0 ([] : List Int), own 37 (eI .u32) Aa16 cc17 t14.Words, own 3 (eI .i64) Aa18 cc19 t14.Sites, own 39 eSapi_Sym Aa20 cc21 t14.Syms, box g2 48 [.slice A0_1 a0.Words.length c0_1, .slice A0_2 a0.Bits.length c0_2, .slice A0_3 a0.Names.length c0_3]] := hw
 replace H : rivetlaw10_FileBack.b73 t38 v74 = some o := H
 unfold rivetlaw10_FileBack.b73 at H
 refine go_seq_k fun K75 hK75 => ?_
 refine go_sp [] [(38, .bool (decide (v74 < (t38.length : Int))))] hs ?_; clear hs; intro a hs
 refine go_cond hs (decide (v74 < (t38.length : Int))) (fun hc => ?_) fun hc => ?_
 ·replace H := ite_t H (of_decide_eq_true hc)
  have hb77 := hc
  rw [hb77] at hs
  refine wp_skip ?_
  refine hK75 _ _ ?_
  refine go_seq_k fun K78 hK78 => ?_
  refine wp_block ?_
  refine go_sk fun K79 hK79 => ?_
  refine go_pvs 2 [38] [(42, .slice Aa41 t38.length cc42), (43, .int .i64 v74)] hs ?_; clear hs; intro a hs
  obtain ⟨hp80, H⟩ := ite_only H
  obtain ⟨Aa81, cc82, hx83, hc84⟩ := c_hi (P := Tryd.prog) (ty := 32) (E := (eI .u8)) (T := 5) (t := 32) (x := (Operand.tmp 42)) (y := (Operand.tmp 43)) (k := .i64) hs (by kernel_rfl) (by kernel_rfl) (Rd.of_own (hw.up 7)) (by kernel_rfl) (by kernel_rfl) hp80.1 hp80.2
  refine go_run hs (by rfl) hx83 [42, 43] ?_; clear hs; intro a hs
  obtain ⟨⟨t87, t88⟩, hx89, H⟩ := bind_some H
  refine go_call hs (by rfl) (file_Take.calls Aa81 cc82 (t38.take (v74 : Int).toNat) (t87, t88) _ (hc84 _ (Rd.of_own (hw.up 7))) hx89) ?_
  rintro e wd96 ⟨Aa90, cc91, Aa92, cc93, Aa94, cc95, rfl, hw97⟩
  refine ⟨_, rfl, ?_⟩
  replace hw := hw.call hw97
  clear hs; intro a hs; replace hs := hs.rms [44]
  refine go_pvs 7 [45] [(46, .agg #[.slice Aa90 t87.Words.length cc91, .slice Aa92 t87.Sites.length cc93, .slice Aa94 t87.Syms.length cc95]), (47, .int .i64 t88)] hs ?_; clear hs; intro a hs
  obtain ⟨g101, wd102, hx103, hw⟩ := x_allocc (P := Tryd.prog) (elem := 26) (ty := 0) (z := .agg #[.slice none 0 0, .slice none 0 0, .slice none 0 0]) (cs := [.slice none 0 0, .slice none 0 0, .slice none 0 0]) hs hw (by kernel_rfl) (by kernel_rfl)
  refine go_run hs (by rfl) hx103 [] ?_; clear hs; intro a hs
  replace hw := St.own_nil hw 37 (eI .u32)
  replace hw := St.own_nil hw 3 (eI .i64)
  replace hw := St.own_nil hw 39 eSapi_Sym
  replace hw : St [] w0 wd102 [own 39 eSapi_Sym none 0 ([] : List Sapi_Sym), own 3 (eI .i64) none 0 ([] : List Int), own 37 (eI .u32) none 0 ([] : List Int), box g101 26 [.slice none ([] : List Int).length 0, .slice none ([] : List Int).length 0, .slice none ([] : List Sapi_Sym).length 0], own 37 (eI .u32) Aa90 cc91 t87.Words, own 3 (eI .i64) Aa92 cc93 t87.Sites, own 39 eSapi_Sym Aa94 cc95 t87.Syms, box g62 26 [.slice Aa51 t48.Words.length cc52, .slice Aa53 t48.Sites.length cc54, .slice Aa55 t48.Syms.length cc56], own 39 eSapi_Sym none 0 ([] : List Sapi_Sym), own 3 (eI .i64) none 0 ([] : List Int), own 37 (eI .u32) none 0 ([] : List Int), own 37 (eI .u32) Aa51 cc52 t48.Words, own 3 (eI .i64) Aa53 cc54 t48.Sites, own 39 eSapi_Sym Aa55 cc56 t48.Syms, own 5 (eI .u8) Aa41 cc42 t38, box g27 26 [.slice Aa16 t14.Words.length cc17, .slice Aa18 t14.Sites.length cc19, .slice Aa20 t14.Syms.length cc21], own 39 eSapi_Sym none 0 ([] : List Sapi_Sym), own 3 (eI .i64) none 0 ([] : List Int), own 37 (eI .u32) none 0 ([] : List Int), own 37 (eI .u32) Aa16 cc17 t14.Words, own 3 (eI .i64) Aa18 cc19 t14.Sites, own 39 eSapi_Sym Aa20 cc21 t14.Syms, box g2 48 [.slice A0_1 a0.Words.length c0_1, .slice A0_2 a0.Bits.length c0_2, .slice A0_3 a0.Names.length c0_3]] := hw
  replace hw := hw.up 3
  obtain ⟨wd108, hx109, hw⟩ := x_bput (P := Tryd.prog) (ty := 0) (t := 26) (y := (Operand.tmp 12)) (z := (Operand.tmp 46)) (o := 0) (p := (⟨g101, 0, none⟩ : Addr)) (v := .agg #[.slice Aa90 t87.Words.length cc91, .slice Aa92 t87.Sites.length cc93, .slice Aa94 t87.Syms.length cc95]) (vs := [.slice Aa90 t87.Words.length cc91, .slice Aa92 t87.Sites.length cc93, .slice Aa94 t87.Syms.length cc95]) (cs' := [.slice Aa90 t87.Words.length cc91, .slice Aa92 t87.Sites.length cc93, .slice Aa94 t87.Syms.length cc95]) hs hw (by kernel_rfl) rfl (by kernel_rfl) rfl (by kernel_rfl) (by kernel_rfl) (by simp [Value.oneCell']) rfl
  refine go_unit hs (by rfl) hx109 [12, 46] ?_; clear hs; intro a hs
  refine go_pvs 10 [47] [(13, .int .i64 t88)] hs ?_; clear hs; intro a hs
  refine go_end (hK79 _ _ ?_)
  refine go_sp [13] [(49, .bool (t88 != 3))] hs ?_; clear hs; intro a hs
  refine go_cond hs (t88 != 3) (fun hc => ?_) fun hc => ?_
  ·replace H := ite_f H (bne_iff_ne.1 hc)
   have hb111 := hc
   rw [hb111] at hs
   refine go_sp [1, 5, 6, 7, 8, 9, 10, 11, 49] [(4, .bool false)] hs ?_; clear hs; intro a hs
   refine wp_ret ?_
   refine ib_ret ?_
   refine th_ret ?_
   refine th_ret ?_
   refine ib_ret ?_
   refine th_ret ?_
   rw [← hr73 _ (Option.some.inj H).symm] at HX73
   replace H : some false = some r := HX73
   obtain rfl := Option.some.inj H
   refine ret1 (t := 4) (v := .bool false) hs (by kernel_rfl) (by kernel_rfl) ?_
   exact ⟨rfl, hw.only 0⟩
  ·replace H := ite_t H (bne_eq_false_iff_eq.1 hc)
   have hb113 := hc
   rw [hb113] at hs
   refine wp_skip ?_
   refine ib_norm ?_
   refine hK78 _ _ ?_
   refine go_plain [49] [(11, .int .i64 (w64 (v74 + 1)))] hs ?_; clear hs; intro a hs
   replace hw := hw.up 22
   replace hw := hw.up 22
   replace hw := hw.up 22
   replace hw := hw.up 22
   replace hw := hw.up 22
   replace hw := hw.up 22
   replace hw := hw.up 22
   replace hw := hw.up 22
   replace hw := hw.up 22
   replace hw := hw.up 22
   replace hw := hw.up 22
   replace hw := hw.up 22
   replace hw := hw.up 22
   replace hw := hw.up 22
   replace hw := hw.up 22
   replace hw := hw.up 22
   replace hw := hw.only 16
   exact round_end (w64 (v74 + 1)) (Option.some.inj H).symm ⟨hs.kx, hw⟩
 ·replace H := ite_f H (of_decide_eq_false hc)
  have hb114 := hc
  rw [hb114] at hs
  refine wp_exit ?_
  refine th_exit ?_
  refine th_exit ?_
  refine in_block ?_
  replace hw := hw.up 15
  replace hw := hw.up 15
  replace hw := hw.up 15
  replace hw := hw.up 15
  replace hw := hw.up 15
  replace hw := hw.up 15
  replace hw := hw.up 15
  replace hw := hw.up 15
  replace hw := hw.up 15
  replace hw := hw.up 15
  replace hw := hw.up 15
  replace hw := hw.up 15
  replace hw := hw.up 15
  replace hw := hw.up 15
  replace hw := hw.up 15
  replace hw := hw.up 15
  rw [← hr73 _ (Option.some.inj H).symm] at HX73
  exact hJ1 _ _ hs.kx hw HX73

end Go.Proofs.YtmfnololpfdfdaaDoor.T09
