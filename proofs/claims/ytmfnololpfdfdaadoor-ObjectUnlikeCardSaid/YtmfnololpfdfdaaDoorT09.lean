/- YtmfnololpfdfdaaDoorT09: Go functions told as plain ones, each with a proof that its call comes to what is told, part 4. Condition of each: that the plain function comes to a value. -/
import Derived.Test.YtmfnololpfdfdaaDoorT09c
namespace Go.Proofs.YtmfnololpfdfdaaDoor.T09
open Go Go.RowKit Go.Proofs.YtmfnololpfdfdaaDoor.E
set_option linter.unusedVariables false
set_option linter.unusedSimpArgs false

/-! rivet/rivetlaw09.shown: function 13 -/
noncomputable def rivetlaw09_shown.j1 (v42 : Bool) : Option Bool := some v42
noncomputable def rivetlaw09_shown : Option Bool := ((object_May (⟨([4] : List Int), ([0] : List Int), ([] : List Sapi_Sym)⟩ : Sapi_Obj)).bind fun t14 => (((object_May (⟨([8] : List Int), ([0] : List Int), ([] : List Sapi_Sym)⟩ : Sapi_Obj)).bind fun t30 => ((if t14 = 0 then (if t30 = 8 then ((object_Same (⟨([] : List Int), ([] : List Int), ([] : List Sapi_Sym)⟩ : Sapi_Obj) (⟨([] : List Int), ([] : List Int), ([] : List Sapi_Sym)⟩ : Sapi_Obj)).bind fun t38 => (rivetlaw09_shown.j1 t38)) else rivetlaw09_shown.j1 false) else rivetlaw09_shown.j1 false)))))
set_option maxRecDepth 100000 in
set_option maxHeartbeats 4000000 in
theorem rivetlaw09_shown.calls (r : Bool) (w0 : World) (H : rivetlaw09_shown = some r) :
    Calls Tryd.prog 13 #[] w0 fun e w' => e = .returned (.bool r) ∧ St [] w0 w' [] := by
 have hw : St [] w0 w0 [] := St.nil w0
 unfold rivetlaw09_shown at H
 refine go_fn Tryd.func13 rfl 22 Tryd.ntmps13 [] (by kernel_rfl) rfl ?_
 intro a hs
 refine go_seq_k fun K1 hK1 => ?_
 refine go_region ?_
 refine go_pvs 0 1 [] hs (L' := []) (by kernel_rfl) ?_ rfl
 clear hs; intro a hs
 refine go_end (by kernel_rfl) ?_
 refine hK1 _ _ ?_
 refine go_seq_k fun K2 hK2 => ?_
 refine go_region ?_
 obtain ⟨Aa3, cc4, wd5, hx6, hw⟩ := n_lit (P := Tryd.prog) (t := 22) (ty := 22) (T := 37) (len := 1) (parts := #[(0, (Operand.const (Value.int IntKind.u32 4)))]) (z := .int .u32 0) (bytes := 4) (cells := #[.int .u32 4]) hs hw (eI .u32) ([4] : List Int) (by kernel_rfl) (by kernel_rfl) (by kernel_rfl) (by kernel_rfl) (by kernel_rfl) (by kernel_rfl) (by kernel_rfl)
 refine go_run hs (op := (Op.buildSlice 22 1 #[(0, (Operand.const (Value.int IntKind.u32 4)))])) (ty := 22) (dst := some 3) (g := none) (by kernel_rfl) (by kernel_rfl) (by kernel_rfl) hx6 [3] (L' := [(3, .slice Aa3 ([4] : List Int).length cc4)]) (by kernel_rfl) ?_
 clear hs; intro a hs
 obtain ⟨Aa8, cc9, wd10, hx11, hw⟩ := n_lit (P := Tryd.prog) (t := 23) (ty := 23) (T := 3) (len := 1) (parts := #[(0, (Operand.const (Value.int IntKind.i64 0)))]) (z := .int .i64 0) (bytes := 8) (cells := #[.int .i64 0]) hs hw (eI .i64) ([0] : List Int) (by kernel_rfl) (by kernel_rfl) (by kernel_rfl) (by kernel_rfl) (by kernel_rfl) (by kernel_rfl) (by kernel_rfl)
 refine go_run hs (op := (Op.buildSlice 23 1 #[(0, (Operand.const (Value.int IntKind.i64 0)))])) (ty := 23) (dst := some 4) (g := none) (by kernel_rfl) (by kernel_rfl) (by kernel_rfl) hx11 [3, 4] (L' := [(3, .slice Aa3 ([4] : List Int).length cc4), (4, .slice Aa8 ([0] : List Int).length cc9)]) (by kernel_rfl) ?_
 clear hs; intro a hs
 refine go_pvs 2 3 [5] hs (L' := [(5, .agg #[.slice Aa3 ([4] : List Int).length cc4, .slice Aa8 ([0] : List Int).length cc9, .slice none 0 0])]) (by kernel_rfl) ?_ rfl
 clear hs; intro a hs
 obtain ⟨t14, hx15, H⟩ := bind_some H
 refine go_call hs (op := (Op.call { callee := (Callee.value (Operand.func 15)), args := #[(Operand.tmp 5)], argTypes := #[26] })) (ty := 29) (dst := some 6) (g := none) (by kernel_rfl) (by kernel_rfl) (by kernel_rfl) (f := 15) (args := #[.agg #[.slice Aa3 ([4] : List Int).length cc4, .slice Aa8 ([0] : List Int).length cc9, .slice none 0 0]]) (by kernel_rfl) (object_May.calls (⟨([4] : List Int), ([0] : List Int), ([] : List Sapi_Sym)⟩ : Sapi_Obj) Aa3 cc4 Aa8 cc9 none 0 t14 _ (Rd.of_own (hw.up 1)) (Rd.of_own (hw.up 0)) (Rd.nil _ _) hx15) ?_
 rintro e wd16 ⟨rfl, hw17⟩
 refine ⟨_, rfl, ?_⟩
 replace hw := hw.call hw17
 intro a hs1
 replace hs : Slots a 22 [(6, .int .i64 t14)] := hs1.keep [6] (by kernel_rfl)
 clear hs1
 refine go_pvs 4 5 [1] hs (L' := [(1, .int .i64 t14)]) (by kernel_rfl) ?_ rfl
 clear hs; intro a hs
 refine go_end (by kernel_rfl) ?_
 refine hK2 _ _ ?_
 refine go_seq_k fun K18 hK18 => ?_
 refine go_region ?_
 obtain ⟨Aa19, cc20, wd21, hx22, hw⟩ := n_lit (P := Tryd.prog) (t := 22) (ty := 22) (T := 37) (len := 1) (parts := #[(0, (Operand.const (Value.int IntKind.u32 8)))]) (z := .int .u32 0) (bytes := 4) (cells := #[.int .u32 8]) hs hw (eI .u32) ([8] : List Int) (by kernel_rfl) (by kernel_rfl) (by kernel_rfl) (by kernel_rfl) (by kernel_rfl) (by kernel_rfl) (by kernel_rfl)
 refine go_run hs (op := (Op.buildSlice 22 1 #[(0, (Operand.const (Value.int IntKind.u32 8)))])) (ty := 22) (dst := some 7) (g := none) (by kernel_rfl) (by kernel_rfl) (by kernel_rfl) hx22 [1, 7] (L' := [(1, .int .i64 t14), (7, .slice Aa19 ([8] : List Int).length cc20)]) (by kernel_rfl) ?_
 clear hs; intro a hs
 obtain ⟨Aa24, cc25, wd26, hx27, hw⟩ := n_lit (P := Tryd.prog) (t := 23) (ty := 23) (T := 3) (len := 1) (parts := #[(0, (Operand.const (Value.int IntKind.i64 0)))]) (z := .int .i64 0) (bytes := 8) (cells := #[.int .i64 0]) hs hw (eI .i64) ([0] : List Int) (by kernel_rfl) (by kernel_rfl) (by kernel_rfl) (by kernel_rfl) (by kernel_rfl) (by kernel_rfl) (by kernel_rfl)
 refine go_run hs (op := (Op.buildSlice 23 1 #[(0, (Operand.const (Value.int IntKind.i64 0)))])) (ty := 23) (dst := some 8) (g := none) (by kernel_rfl) (by kernel_rfl) (by kernel_rfl) hx27 [1, 7, 8] (L' := [(1, .int .i64 t14), (7, .slice Aa19 ([8] : List Int).length cc20), (8, .slice Aa24 ([0] : List Int).length cc25)]) (by kernel_rfl) ?_
 clear hs; intro a hs
 refine go_pvs 2 3 [1, 9] hs (L' := [(1, .int .i64 t14), (9, .agg #[.slice Aa19 ([8] : List Int).length cc20, .slice Aa24 ([0] : List Int).length cc25, .slice none 0 0])]) (by kernel_rfl) ?_ rfl
 clear hs; intro a hs
 obtain ⟨t30, hx31, H⟩ := bind_some H
 refine go_call hs (op := (Op.call { callee := (Callee.value (Operand.func 15)), args := #[(Operand.tmp 9)], argTypes := #[26] })) (ty := 29) (dst := some 10) (g := none) (by kernel_rfl) (by kernel_rfl) (by kernel_rfl) (f := 15) (args := #[.agg #[.slice Aa19 ([8] : List Int).length cc20, .slice Aa24 ([0] : List Int).length cc25, .slice none 0 0]]) (by kernel_rfl) (object_May.calls (⟨([8] : List Int), ([0] : List Int), ([] : List Sapi_Sym)⟩ : Sapi_Obj) Aa19 cc20 Aa24 cc25 none 0 t30 _ (Rd.of_own (hw.up 1)) (Rd.of_own (hw.up 0)) (Rd.nil _ _) hx31) ?_
 rintro e wd32 ⟨rfl, hw33⟩
 refine ⟨_, rfl, ?_⟩
 replace hw := hw.call hw33
 intro a hs1
 replace hs : Slots a 22 [(1, .int .i64 t14), (10, .int .i64 t30)] := hs1.keep [1, 10] (by kernel_rfl)
 clear hs1
 refine go_pvs 4 5 [1, 2] hs (L' := [(1, .int .i64 t14), (2, .int .i64 t30)]) (by kernel_rfl) ?_ rfl
 clear hs; intro a hs
 refine go_end (by kernel_rfl) ?_
 refine hK18 _ _ ?_
 refine go_seq_k fun K34 hK34 => ?_
 have hJ1 : ∀ (v42 : Bool) (a : Act) (w : World), Slots a 22 [(0, .bool v42)] → St [] w0 w [own 3 (eI .i64) Aa24 cc25 ([0] : List Int), own 37 (eI .u32) Aa19 cc20 ([8] : List Int), own 3 (eI .i64) Aa8 cc9 ([0] : List Int), own 37 (eI .u32) Aa3 cc4 ([4] : List Int)] → rivetlaw09_shown.j1 v42 = some r → K34 a w := by
  intro v42 a w hs hw H
  unfold rivetlaw09_shown.j1 at H
  refine hK34 _ _ ?_
  refine wp_ret ?_
  obtain rfl := Option.some.inj H
  refine ret1 (t := 0) (v := .bool v42) hs (by kernel_rfl) (by kernel_rfl) ?_
  exact ⟨rfl, hw.only 0⟩
 refine go_region ?_
 refine go_pvs 0 3 [2, 13] hs (L' := [(2, .int .i64 t30), (13, .bool (t14 == 0))]) (by kernel_rfl) ?_ rfl
 clear hs; intro a hs
 cases hb35 : (t14 == 0)
 ·replace H := ite_f H (beq_eq_false_iff_ne.1 hb35)
  rw [hb35] at hs
  refine go_pvs 3 12 [0] hs (L' := [(0, .bool false)]) (by kernel_rfl) ?_ rfl
  clear hs; intro a hs
  refine go_end (by kernel_rfl) ?_
  replace hw := hw.up 3
  replace hw := hw.up 3
  replace hw := hw.up 3
  replace hw := hw.up 3
  replace hw := hw.only 4
  exact hJ1 false _ _ (hs.keep [0] (by kernel_rfl)) hw H
 ·replace H := ite_t H (beq_iff_eq.1 hb35)
  rw [hb35] at hs
  refine go_pvs 3 7 [17] hs (L' := [(17, .bool (t30 == 8))]) (by kernel_rfl) ?_ rfl
  clear hs; intro a hs
  cases hb36 : (t30 == 8)
  ·replace H := ite_f H (beq_eq_false_iff_ne.1 hb36)
   rw [hb36] at hs
   refine go_pvs 7 12 [0] hs (L' := [(0, .bool false)]) (by kernel_rfl) ?_ rfl
   clear hs; intro a hs
   refine go_end (by kernel_rfl) ?_
   replace hw := hw.up 3
   replace hw := hw.up 3
   replace hw := hw.up 3
   replace hw := hw.up 3
   replace hw := hw.only 4
   exact hJ1 false _ _ (hs.keep [0] (by kernel_rfl)) hw H
  ·replace H := ite_t H (beq_iff_eq.1 hb36)
   rw [hb36] at hs
   refine go_pvs 7 9 [17, 18, 19] hs (L' := [(17, .bool true), (18, .agg #[.slice none 0 0, .slice none 0 0, .slice none 0 0]), (19, .agg #[.slice none 0 0, .slice none 0 0, .slice none 0 0])]) (by kernel_rfl) ?_ rfl
   clear hs; intro a hs
   obtain ⟨t38, hx39, H⟩ := bind_some H
   refine go_call hs (op := (Op.call { callee := (Callee.value (Operand.func 17)), args := #[(Operand.tmp 18), (Operand.tmp 19)], argTypes := #[26, 26] })) (ty := 4) (dst := some 20) (g := some (6, true)) (by kernel_rfl) (by kernel_rfl) (by kernel_rfl) (f := 17) (args := #[.agg #[.slice none 0 0, .slice none 0 0, .slice none 0 0], .agg #[.slice none 0 0, .slice none 0 0, .slice none 0 0]]) (by kernel_rfl) (object_Same.calls (⟨([] : List Int), ([] : List Int), ([] : List Sapi_Sym)⟩ : Sapi_Obj) none 0 none 0 none 0 (⟨([] : List Int), ([] : List Int), ([] : List Sapi_Sym)⟩ : Sapi_Obj) none 0 none 0 none 0 t38 _ (Rd.nil _ _) (Rd.nil _ _) (Rd.nil _ _) (Rd.nil _ _) (Rd.nil _ _) (Rd.nil _ _) hx39) ?_
   rintro e wd40 ⟨rfl, hw41⟩
   refine ⟨_, rfl, ?_⟩
   replace hw := hw.call hw41
   intro a hs1
   replace hs : Slots a 22 [(17, .bool true), (20, .bool t38)] := hs1.keep [17, 20] (by kernel_rfl)
   clear hs1
   refine go_pvs 10 12 [0] hs (L' := [(0, .bool t38)]) (by kernel_rfl) ?_ rfl
   clear hs; intro a hs
   refine go_end (by kernel_rfl) ?_
   replace hw := hw.up 3
   replace hw := hw.up 3
   replace hw := hw.up 3
   replace hw := hw.up 3
   replace hw := hw.only 4
   exact hJ1 t38 _ _ (hs.keep [0] (by kernel_rfl)) hw H

end Go.Proofs.YtmfnololpfdfdaaDoor.T09
