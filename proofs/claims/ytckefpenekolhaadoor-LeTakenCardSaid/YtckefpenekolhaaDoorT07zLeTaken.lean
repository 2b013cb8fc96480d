/- YtckefpenekolhaaDoorT07zLeTaken: Go functions told as plain ones, each with a proof that its call comes to what is told, part 1. Condition of each: that the plain function comes to a value. -/
import Derived.Test.YtckefpenekolhaaDoorT07
import Derived.Test.YtckefpenekolhaaDoorEL
import Derived.Test.YtckefpenekolhaaDoorProg
namespace Go.Proofs.YtckefpenekolhaaDoor.T07
open Go Go.RowKit Go.Proofs.YtckefpenekolhaaDoor.E
set_option linter.unusedVariables false
set_option linter.unusedSimpArgs false

/-! rivet/rivetlaw07.LeTaken: function 6 -/
noncomputable def rivetlaw07_LeTaken.j4 (v95 : Bool) : Option Bool := some v95
noncomputable def rivetlaw07_LeTaken.j3 (v68 : Bool) : Option Bool := some v68
noncomputable def rivetlaw07_LeTaken.j2 (l0 : List Int) (t4 : Bool) : Option Bool := ((le_TakeName (l0.take (mnn (l0.length : Int) 200 : Int).toNat)).bind fun ⟨t53, t54, t55⟩ => ((if t55 = 0 then ((le_PutName t53).bind fun ⟨t72, t73⟩ => ((if t4 = true then (if t73 = 0 then ((le_Name t53).bind fun t84 => ((if t84 = true then (if t54 ≥ 4 then (if t54 ≤ ((l0.take (mnn (l0.length : Int) 200 : Int).toNat).length : Int) then (if 0 ≤ t54 ∧ t54 ≤ ((l0.take (mnn (l0.length : Int) 200 : Int).toNat).length : Int) then rivetlaw07_LeTaken.j4 ((strOfNums t72).toList == (strOfNums ((l0.take (mnn (l0.length : Int) 200 : Int).toNat).take (t54 : Int).toNat)).toList) else none) else rivetlaw07_LeTaken.j4 false) else rivetlaw07_LeTaken.j4 false) else rivetlaw07_LeTaken.j4 false))) else rivetlaw07_LeTaken.j4 false) else rivetlaw07_LeTaken.j4 false))) else (if t4 = true then (if (t53.toList == (⟨#[]⟩ : ByteArray).toList) = true then (if t54 = 0 then (if t55 = 3 then rivetlaw07_LeTaken.j3 true else (if t55 = 9 then rivetlaw07_LeTaken.j3 true else rivetlaw07_LeTaken.j3 (t55 == 6))) else rivetlaw07_LeTaken.j3 false) else rivetlaw07_LeTaken.j3 false) else rivetlaw07_LeTaken.j3 false))))
noncomputable def rivetlaw07_LeTaken.j1 (l0 : List Int) (t4 : Bool) (v47 : Bool) : Option Bool := (if v47 = true then some false else rivetlaw07_LeTaken.j2 l0 t4)
noncomputable def rivetlaw07_LeTaken (l0 : List Int) (a1 : Int) : Option Bool := ((rivetlaw07_shown).bind fun t4 => ((if 0 ≤ (mnn (l0.length : Int) 200) ∧ (mnn (l0.length : Int) 200) ≤ (l0.length : Int) then ((le_Take (l0.take (mnn (l0.length : Int) 200 : Int).toNat) (w64 (a1.tmod 64))).bind fun ⟨t20, t21⟩ => ((if t21 = 0 then (if (t20.length : Int) = (w64 (a1.tmod 64)) then (if ((l0.take (mnn (l0.length : Int) 200 : Int).toNat).length : Int) < (w64 (4 * (t20.length : Int))) then rivetlaw07_LeTaken.j1 l0 t4 true else (if 0 ≤ (w64 (4 * (t20.length : Int))) ∧ (w64 (4 * (t20.length : Int))) ≤ ((l0.take (mnn (l0.length : Int) 200 : Int).toNat).length : Int) then ((le_Put t20).bind fun t40 => (rivetlaw07_LeTaken.j1 l0 t4 (!((strOfNums t40).toList == (strOfNums ((l0.take (mnn (l0.length : Int) 200 : Int).toNat).take (w64 (4 * (t20.length : Int)) : Int).toNat)).toList)))) else none)) else rivetlaw07_LeTaken.j1 l0 t4 true) else rivetlaw07_LeTaken.j1 l0 t4 false))) else none)))
set_option maxRecDepth 100000 in
set_option maxHeartbeats 4000000 in
theorem rivetlaw07_LeTaken.calls (A0 : Option Addr) (c0 : Nat) (l0 : List Int) (a1 : Int) (r : Bool) (w0 : World) (hr0 : Rd w0 (eI .u8) A0 c0 l0) (H : rivetlaw07_LeTaken l0 a1 = some r) :
    Calls Tryd.prog 6 #[.slice A0 l0.length c0, .int .u8 a1] w0 fun e w' => e = .returned (.bool r) ∧ St [] w0 w' [] := by
 have hw : St [] w0 w0 [] := St.nil w0
 unfold rivetlaw07_LeTaken at H
 refine go_fn Tryd.func6 rfl 117 Tryd.ntmps6 [(0, .slice A0 l0.length c0), (1, .int .u8 a1)] (by kernel_rfl) rfl ?_
 intro a hs
 refine go_seq_k fun K1 hK1 => ?_
 refine go_region ?_
 refine go_pvs 0 1 [0, 1] hs (L' := [(0, .slice A0 l0.length c0), (1, .int .u8 a1)]) (by kernel_rfl) ?_ rfl
 clear hs; intro a hs
 refine go_end (by kernel_rfl) ?_
 refine hK1 _ _ ?_
 refine go_seq_k fun K2 hK2 => ?_
 refine go_region ?_
 obtain ⟨t4, hx5, H⟩ := bind_some H
 refine go_call hs (op := (Op.call { callee := (Callee.value (Operand.func 8)), args := #[], argTypes := #[] })) (ty := 4) (dst := some 14) (g := none) (by kernel_rfl) (by kernel_rfl) (by kernel_rfl) (f := 8) (args := #[]) (by kernel_rfl) (rivetlaw07_shown.calls t4 _ hx5) ?_
 rintro e wd6 ⟨rfl, hw7⟩
 refine ⟨_, rfl, ?_⟩
 replace hw := hw.call hw7
 intro a hs1
 replace hs : Slots a 117 [(0, .slice A0 l0.length c0), (1, .int .u8 a1), (14, .bool t4)] := hs1.keep [0, 1, 14] (by kernel_rfl)
 clear hs1
 refine go_pvs 1 2 [0, 1, 5] hs (L' := [(0, .slice A0 l0.length c0), (1, .int .u8 a1), (5, .bool t4)]) (by kernel_rfl) ?_ rfl
 clear hs; intro a hs
 refine go_end (by kernel_rfl) ?_
 refine hK2 _ _ ?_
 refine go_seq_k fun K8 hK8 => ?_
 refine go_region ?_
 refine go_pvs 0 1 [1, 5, 15] hs (L' := [(1, .int .u8 a1), (5, .bool t4), (15, .slice A0 l0.length c0)]) (by kernel_rfl) ?_ rfl
 clear hs; intro a hs
 refine go_inline_k hs (op := (Op.call { callee := (Callee.value (Operand.func 12)), args := #[(Operand.tmp 15)], argTypes := #[22] })) (ty := 22) (dst := some 16) (g := none) (by kernel_rfl) (by kernel_rfl) (by kernel_rfl) (f := 12) (args := #[.slice A0 l0.length c0]) (by kernel_rfl) (fun KR9 hKR9 => ?_)
 refine go_fn Tryd.func12 rfl 8 Tryd.ntmps12 [(0, .slice A0 l0.length c0)] (by kernel_rfl) rfl ?_
 clear hs; intro a hs
 refine go_seq_k fun K10 hK10 => ?_
 refine go_region ?_
 refine go_pvs 0 1 [0] hs (L' := [(0, .slice A0 l0.length c0)]) (by kernel_rfl) ?_ rfl
 clear hs; intro a hs
 refine go_end (by kernel_rfl) ?_
 refine hK10 _ _ ?_
 refine go_seq_k fun K11 hK11 => ?_
 refine go_region ?_
 refine go_pvs 0 4 [3, 6] hs (L' := [(3, .slice A0 l0.length c0), (6, .int .i64 (mnn (l0.length : Int) 200))]) (by kernel_rfl) ?_ rfl
 clear hs; intro a hs
 obtain ⟨hp12, H⟩ := ite_only H
 obtain ⟨Aa13, cc14, hx15, hc16⟩ := c_hi (P := Tryd.prog) (ty := 22) (E := (eI .u8)) (T := 5) (t := 22) (x := (Operand.tmp 3)) (y := (Operand.tmp 6)) (k := .i64) hs (by kernel_rfl) (by kernel_rfl) (hr0.old hw) (by kernel_rfl) (by kernel_rfl) hp12.1 hp12.2
 refine go_run hs (op := (Op.slice 22 (Operand.tmp 3) none (some (Operand.tmp 6)) none)) (ty := 22) (dst := some 7) (g := none) (by kernel_rfl) (by kernel_rfl) (by kernel_rfl) hx15 [7] (L' := [(7, .slice Aa13 (l0.take (mnn (l0.length : Int) 200 : Int).toNat).length cc14)]) (by kernel_rfl) ?_
 clear hs; intro a hs
 refine go_pvs 5 6 [2] hs (L' := [(2, .slice Aa13 (l0.take (mnn (l0.length : Int) 200 : Int).toNat).length cc14)]) (by kernel_rfl) ?_ rfl
 clear hs; intro a hs
 refine go_end (by kernel_rfl) ?_
 refine hK11 _ _ ?_
 refine wp_ret ?_
 refine ret1 (t := 2) (v := .slice Aa13 (l0.take (mnn (l0.length : Int) 200 : Int).toNat).length cc14) hs (by kernel_rfl) (by kernel_rfl) ?_
 refine ⟨_, rfl, ?_⟩
 refine hKR9 _ _ ?_
 intro a hs1
 have hs : Slots a _ [(1, .int .u8 a1), (5, .bool t4), (16, .slice Aa13 (l0.take (mnn (l0.length : Int) 200 : Int).toNat).length cc14)] := hs1.keep [1, 5, 16] (by kernel_rfl)
 clear hs1
 refine go_pvs 2 3 [1, 5, 6] hs (L' := [(1, .int .u8 a1), (5, .bool t4), (6, .slice Aa13 (l0.take (mnn (l0.length : Int) 200 : Int).toNat).length cc14)]) (by kernel_rfl) ?_ rfl
 clear hs; intro a hs
 refine go_end (by kernel_rfl) ?_
 refine hK8 _ _ ?_
 refine go_seq_k fun K18 hK18 => ?_
 refine go_region ?_
 refine go_pvs 0 4 [1, 5, 6, 18, 21] hs (L' := [(1, .int .u8 a1), (5, .bool t4), (6, .slice Aa13 (l0.take (mnn (l0.length : Int) 200 : Int).toNat).length cc14), (18, .slice Aa13 (l0.take (mnn (l0.length : Int) 200 : Int).toNat).length cc14), (21, .int .i64 (w64 (a1.tmod 64)))]) (by kernel_rfl) ?_ rfl
 clear hs; intro a hs
 obtain ⟨⟨t20, t21⟩, hx22, H⟩ := bind_some H
 refine go_call hs (op := (Op.call { callee := (Callee.value (Operand.func 16)), args := #[(Operand.tmp 18), (Operand.tmp 21)], argTypes := #[22, 3] })) (ty := 33) (dst := some 22) (g := none) (by kernel_rfl) (by kernel_rfl) (by kernel_rfl) (f := 16) (args := #[.slice Aa13 (l0.take (mnn (l0.length : Int) 200 : Int).toNat).length cc14, .int .i64 (w64 (a1.tmod 64))]) (by kernel_rfl) (le_Take.calls Aa13 cc14 (l0.take (mnn (l0.length : Int) 200 : Int).toNat) (w64 (a1.tmod 64)) (t20, t21) _ (hc16 _ (hr0.old hw)) hx22) ?_
 rintro e wd25 ⟨Aa23, cc24, rfl, hw26⟩
 refine ⟨_, rfl, ?_⟩
 replace hw := hw.call hw26
 intro a hs1
 replace hs : Slots a 117 [(1, .int .u8 a1), (5, .bool t4), (6, .slice Aa13 (l0.take (mnn (l0.length : Int) 200 : Int).toNat).length cc14), (22, .tuple #[.slice Aa23 t20.length cc24, .int .i64 t21])] := hs1.keep [1, 5, 6, 22] (by kernel_rfl)
 clear hs1
 refine go_pvs 5 10 [1, 5, 6, 7, 8] hs (L' := [(1, .int .u8 a1), (5, .bool t4), (6, .slice Aa13 (l0.take (mnn (l0.length : Int) 200 : Int).toNat).length cc14), (7, .slice Aa23 t20.length cc24), (8, .int .i64 t21)]) (by kernel_rfl) ?_ rfl
 clear hs; intro a hs
 refine go_end (by kernel_rfl) ?_
 refine hK18 _ _ ?_
 refine go_seq_k fun K28 hK28 => ?_
 have hJ2 : ∀ (a : Act) (w : World), Slots a 117 [(5, .bool t4), (6, .slice Aa13 (l0.take (mnn (l0.length : Int) 200 : Int).toNat).length cc14)] → St [] w0 w [own 43 (eI .u32) Aa23 cc24 t20] → rivetlaw07_LeTaken.j2 l0 t4 = some r → K28 a w := by
  intro a w hs hw H
  unfold rivetlaw07_LeTaken.j2 at H
  refine hK28 _ _ ?_
  refine go_seq_k fun K51 hK51 => ?_
  refine go_region ?_
  refine go_pvs 0 1 [5, 6, 56] hs (L' := [(5, .bool t4), (6, .slice Aa13 (l0.take (mnn (l0.length : Int) 200 : Int).toNat).length cc14), (56, .slice Aa13 (l0.take (mnn (l0.length : Int) 200 : Int).toNat).length cc14)]) (by kernel_rfl) ?_ rfl
  clear hs; intro a hs
  obtain ⟨⟨t53, t54, t55⟩, hx56, H⟩ := bind_some H
  refine go_call hs (op := (Op.call { callee := (Callee.value (Operand.func 11)), args := #[(Operand.tmp 56)], argTypes := #[22] })) (ty := 27) (dst := some 57) (g := none) (by kernel_rfl) (by kernel_rfl) (by kernel_rfl) (f := 11) (args := #[.slice Aa13 (l0.take (mnn (l0.length : Int) 200 : Int).toNat).length cc14]) (by kernel_rfl) (le_TakeName.calls Aa13 cc14 (l0.take (mnn (l0.length : Int) 200 : Int).toNat) (t53, t54, t55) _ (hc16 _ (hr0.old hw)) hx56) ?_
  rintro e wd57 ⟨rfl, hw58⟩
  refine ⟨_, rfl, ?_⟩
  replace hw := hw.call hw58
  intro a hs1
  replace hs : Slots a 117 [(5, .bool t4), (6, .slice Aa13 (l0.take (mnn (l0.length : Int) 200 : Int).toNat).length cc14), (57, .tuple #[.string t53, .int .i64 t54, .int .i64 t55])] := hs1.keep [5, 6, 57] (by kernel_rfl)
  clear hs1
  refine go_pvs 2 9 [5, 6, 9, 10, 11] hs (L' := [(5, .bool t4), (6, .slice Aa13 (l0.take (mnn (l0.length : Int) 200 : Int).toNat).length cc14), (9, .string t53), (10, .int .i64 t54), (11, .int .i64 t55)]) (by kernel_rfl) ?_ rfl
  clear hs; intro a hs
  refine go_end (by kernel_rfl) ?_
  refine hK51 _ _ ?_
  refine go_seq_k fun K59 hK59 => ?_
  refine go_seq_k fun K60 hK60 => ?_
  refine go_region ?_
  refine go_pvs 0 2 [5, 6, 9, 10, 11, 62] hs (L' := [(5, .bool t4), (6, .slice Aa13 (l0.take (mnn (l0.length : Int) 200 : Int).toNat).length cc14), (9, .string t53), (10, .int .i64 t54), (11, .int .i64 t55), (62, .bool (t55 != 0))]) (by kernel_rfl) ?_ rfl
  clear hs; intro a hs
  refine go_end (by kernel_rfl) ?_
  refine hK60 _ _ ?_
  refine go_cond hs (t55 != 0) (by kernel_rfl) (fun hc => ?_) (fun hc => ?_)
  ·replace H := ite_f H (bne_iff_ne.1 hc)
   have hb61 := hc
   rw [hb61] at hs
   refine go_seq_k fun K62 hK62 => ?_
   have hJ3 : ∀ (v68 : Bool) (a : Act) (w : World), Slots a 117 [(4, .bool v68)] → St [] w0 w [own 43 (eI .u32) Aa23 cc24 t20] → rivetlaw07_LeTaken.j3 v68 = some r → K62 a w := by
    intro v68 a w hs hw H
    unfold rivetlaw07_LeTaken.j3 at H
    refine hK62 _ _ ?_
    refine wp_ret ?_
    refine th_ret ?_
    obtain rfl := Option.some.inj H
    refine ret1 (t := 4) (v := .bool v68) hs (by kernel_rfl) (by kernel_rfl) ?_
    exact ⟨rfl, hw.only 0⟩
   refine go_region ?_
   refine go_pvs 0 2 [9, 10, 11, 64] hs (L' := [(9, .string t53), (10, .int .i64 t54), (11, .int .i64 t55), (64, .bool t4)]) (by kernel_rfl) ?_ rfl
   clear hs; intro a hs
   cases hb63 : t4
   ·replace H := ite_f H (ff hb63)
    rw [hb63] at hs
    refine go_pvs 2 22 [4] hs (L' := [(4, .bool false)]) (by kernel_rfl) ?_ rfl
    clear hs; intro a hs
    refine go_end (by kernel_rfl) ?_
    replace hw := hw.only 1
    exact hJ3 false _ _ (hs.keep [4] (by kernel_rfl)) hw H
   ·replace H := ite_t H hb63
    rw [hb63] at hs
    refine go_pvs 2 6 [10, 11, 68] hs (L' := [(10, .int .i64 t54), (11, .int .i64 t55), (68, .bool (t53.toList == (⟨#[]⟩ : ByteArray).toList))]) (by kernel_rfl) ?_ rfl
    clear hs; intro a hs
    cases hb64 : (t53.toList == (⟨#[]⟩ : ByteArray).toList)
    ·replace H := ite_f H (ff hb64)
     rw [hb64] at hs
     refine go_pvs 6 22 [4] hs (L' := [(4, .bool false)]) (by kernel_rfl) ?_ rfl
     clear hs; intro a hs
     refine go_end (by kernel_rfl) ?_
     replace hw := hw.only 1
     exact hJ3 false _ _ (hs.keep [4] (by kernel_rfl)) hw H
    ·replace H := ite_t H hb64
     rw [hb64] at hs
     refine go_pvs 6 10 [11, 72] hs (L' := [(11, .int .i64 t55), (72, .bool (t54 == 0))]) (by kernel_rfl) ?_ rfl
     clear hs; intro a hs
     cases hb65 : (t54 == 0)
     ·replace H := ite_f H (beq_eq_false_iff_ne.1 hb65)
      rw [hb65] at hs
      refine go_pvs 10 22 [4] hs (L' := [(4, .bool false)]) (by kernel_rfl) ?_ rfl
      clear hs; intro a hs
      refine go_end (by kernel_rfl) ?_
      replace hw := hw.only 1
      exact hJ3 false _ _ (hs.keep [4] (by kernel_rfl)) hw H
     ·replace H := ite_t H (beq_iff_eq.1 hb65)
      rw [hb65] at hs
      refine go_pvs 10 13 [11, 72, 75] hs (L' := [(11, .int .i64 t55), (72, .bool true), (75, .bool (t55 == 3))]) (by kernel_rfl) ?_ rfl
      clear hs; intro a hs
      cases hb66 : (t55 == 3)
      ·replace H := ite_f H (beq_eq_false_iff_ne.1 hb66)
       rw [hb66] at hs
       refine go_pvs 13 17 [11, 72, 79] hs (L' := [(11, .int .i64 t55), (72, .bool true), (79, .bool (t55 == 9))]) (by kernel_rfl) ?_ rfl
       clear hs; intro a hs
       cases hb67 : (t55 == 9)
       ·replace H := ite_f H (beq_eq_false_iff_ne.1 hb67)
        rw [hb67] at hs
        refine go_pvs 17 22 [4] hs (L' := [(4, .bool (t55 == 6))]) (by kernel_rfl) ?_ rfl
        clear hs; intro a hs
        refine go_end (by kernel_rfl) ?_
        replace hw := hw.only 1
        exact hJ3 (t55 == 6) _ _ (hs.keep [4] (by kernel_rfl)) hw H
       ·replace H := ite_t H (beq_iff_eq.1 hb67)
        rw [hb67] at hs
        refine go_pvs 17 22 [4] hs (L' := [(4, .bool true)]) (by kernel_rfl) ?_ rfl
        clear hs; intro a hs
        refine go_end (by kernel_rfl) ?_
        replace hw := hw.only 1
        exact hJ3 true _ _ (hs.keep [4] (by kernel_rfl)) hw H
      ·replace H := ite_t H (beq_iff_eq.1 hb66)
       rw [hb66] at hs
       refine go_pvs 13 22 [4] hs (L' := [(4, .bool true)]) (by kernel_rfl) ?_ rfl
       clear hs; intro a hs
       refine go_end (by kernel_rfl) ?_
       replace hw := hw.only 1
       exact hJ3 true _ _ (hs.keep [4] (by kernel_rfl)) hw H
  ·replace H := ite_t H (bne_eq_false_iff_eq.1 hc)
   have hb69 := hc
   rw [hb69] at hs
   refine wp_skip ?_
   refine hK59 _ _ ?_
   refine go_seq_k fun K70 hK70 => ?_
   refine go_region ?_
   refine go_pvs 0 1 [5, 6, 9, 10, 85] hs (L' := [(5, .bool t4), (6, .slice Aa13 (l0.take (mnn (l0.length : Int) 200 : Int).toNat).length cc14), (9, .string t53), (10, .int .i64 t54), (85, .string t53)]) (by kernel_rfl) ?_ rfl
   clear hs; intro a hs
   obtain ⟨⟨t72, t73⟩, hx74, H⟩ := bind_some H
   refine go_call hs (op := (Op.call { callee := (Callee.value (Operand.func 9)), args := #[(Operand.tmp 85)], argTypes := #[9] })) (ty := 25) (dst := some 86) (g := none) (by kernel_rfl) (by kernel_rfl) (by kernel_rfl) (f := 9) (args := #[.string t53]) (by kernel_rfl) (le_PutName.calls t53 (t72, t73) _ hx74) ?_
   rintro e wd77 ⟨Aa75, cc76, rfl, hw78⟩
   refine ⟨_, rfl, ?_⟩
   replace hw := hw.call hw78
   intro a hs1
   replace hs : Slots a 117 [(5, .bool t4), (6, .slice Aa13 (l0.take (mnn (l0.length : Int) 200 : Int).toNat).length cc14), (9, .string t53), (10, .int .i64 t54), (86, .tuple #[.slice Aa75 t72.length cc76, .int .i64 t73])] := hs1.keep [5, 6, 9, 10, 86] (by kernel_rfl)
   clear hs1
   refine go_pvs 2 7 [5, 6, 9, 10, 12, 13] hs (L' := [(5, .bool t4), (6, .slice Aa13 (l0.take (mnn (l0.length : Int) 200 : Int).toNat).length cc14), (9, .string t53), (10, .int .i64 t54), (12, .slice Aa75 t72.length cc76), (13, .int .i64 t73)]) (by kernel_rfl) ?_ rfl
   clear hs; intro a hs
   refine go_end (by kernel_rfl) ?_
   refine hK70 _ _ ?_
   refine go_seq_k fun K80 hK80 => ?_
   have hJ4 : ∀ (v95 : Bool) (a : Act) (w : World), Slots a 117 [(4, .bool v95)] → St [] w0 w [own 5 (eI .u8) Aa75 cc76 t72, own 43 (eI .u32) Aa23 cc24 t20] → rivetlaw07_LeTaken.j4 v95 = some r → K80 a w := by
    intro v95 a w hs hw H
    unfold rivetlaw07_LeTaken.j4 at H
    refine hK80 _ _ ?_
    refine wp_ret ?_
    obtain rfl := Option.some.inj H
    refine ret1 (t := 4) (v := .bool v95) hs (by kernel_rfl) (by kernel_rfl) ?_
    exact ⟨rfl, hw.only 0⟩
   refine q2_region (by kernel_rfl) (by kernel_rfl) ?_
   refine q_pvs 0 2 [6, 9, 10, 12, 13, 90] hs (L' := [(6, .slice Aa13 (l0.take (mnn (l0.length : Int) 200 : Int).toNat).length cc14), (9, .string t53), (10, .int .i64 t54), (12, .slice Aa75 t72.length cc76), (13, .int .i64 t73), (90, .bool t4)]) (by kernel_rfl) ?_ rfl
   clear hs; intro a hs
   cases hb81 : t4
   ·replace H := ite_f H (ff hb81)
    rw [hb81] at hs
    refine q_pvs 2 29 [4] hs (L' := [(4, .bool false)]) (by kernel_rfl) ?_ rfl
    clear hs; intro a hs
    refine q_end (by kernel_rfl) ?_
    intro wq hbq
    replace hw := hw.behind hbq
    replace hw := hw.up 1
    replace hw := hw.up 1
    replace hw := hw.only 2
    exact hJ4 false _ _ (hs.keep [4] (by kernel_rfl)) hw H
   ·replace H := ite_t H hb81
    rw [hb81] at hs
    refine q_pvs 2 6 [6, 9, 10, 12, 94] hs (L' := [(6, .slice Aa13 (l0.take (mnn (l0.length : Int) 200 : Int).toNat).length cc14), (9, .string t53), (10, .int .i64 t54), (12, .slice Aa75 t72.length cc76), (94, .bool (t73 == 0))]) (by kernel_rfl) ?_ rfl
    clear hs; intro a hs
    cases hb82 : (t73 == 0)
    ·replace H := ite_f H (beq_eq_false_iff_ne.1 hb82)
     rw [hb82] at hs
     refine q_pvs 6 29 [4] hs (L' := [(4, .bool false)]) (by kernel_rfl) ?_ rfl
     clear hs; intro a hs
     refine q_end (by kernel_rfl) ?_
     intro wq hbq
     replace hw := hw.behind hbq
     replace hw := hw.up 1
     replace hw := hw.up 1
     replace hw := hw.only 2
     exact hJ4 false _ _ (hs.keep [4] (by kernel_rfl)) hw H
    ·replace H := ite_t H (beq_iff_eq.1 hb82)
     rw [hb82] at hs
     refine q_pvs 6 7 [6, 10, 12, 94, 95] hs (L' := [(6, .slice Aa13 (l0.take (mnn (l0.length : Int) 200 : Int).toNat).length cc14), (10, .int .i64 t54), (12, .slice Aa75 t72.length cc76), (94, .bool true), (95, .string t53)]) (by kernel_rfl) ?_ rfl
     clear hs; intro a hs
     obtain ⟨t84, hx85, H⟩ := bind_some H
     refine q_call hs (op := (Op.call { callee := (Callee.value (Operand.func 14)), args := #[(Operand.tmp 95)], argTypes := #[9] })) (ty := 4) (dst := some 96) (g := some (5, true)) (by kernel_rfl) (by kernel_rfl) (by kernel_rfl) (f := 14) (args := #[.string t53]) (v := .bool t84) (by kernel_rfl) (fun wx hbx => (le_Name.calls t53 t84 _ hx85).mono ?_) [6, 10, 12, 94, 96] (L' := [(6, .slice Aa13 (l0.take (mnn (l0.length : Int) 200 : Int).toNat).length cc14), (10, .int .i64 t54), (12, .slice Aa75 t72.length cc76), (94, .bool true), (96, .bool t84)]) (by kernel_rfl) ?_
     · rintro e wy ⟨rfl, hwy⟩
       exact ⟨rfl, below_st hbx hwy⟩
     clear hs; intro a hs
     refine q_pvs 8 10 [6, 10, 12, 98] hs (L' := [(6, .slice Aa13 (l0.take (mnn (l0.length : Int) 200 : Int).toNat).length cc14), (10, .int .i64 t54), (12, .slice Aa75 t72.length cc76), (98, .bool t84)]) (by kernel_rfl) ?_ rfl
     clear hs; intro a hs
     cases hb86 : t84
     ·replace H := ite_f H (ff hb86)
      rw [hb86] at hs
      refine q_pvs 10 29 [4] hs (L' := [(4, .bool false)]) (by kernel_rfl) ?_ rfl
      clear hs; intro a hs
      refine q_end (by kernel_rfl) ?_
      intro wq hbq
      replace hw := hw.behind hbq
      replace hw := hw.up 1
      replace hw := hw.up 1
      replace hw := hw.only 2
      exact hJ4 false _ _ (hs.keep [4] (by kernel_rfl)) hw H
     ·replace H := ite_t H hb86
      rw [hb86] at hs
      refine q_pvs 10 14 [6, 10, 12, 102] hs (L' := [(6, .slice Aa13 (l0.take (mnn (l0.length : Int) 200 : Int).toNat).length cc14), (10, .int .i64 t54), (12, .slice Aa75 t72.length cc76), (102, .bool (decide (t54 ≥ 4)))]) (by kernel_rfl) ?_ rfl
      clear hs; intro a hs
      cases hb87 : (decide (t54 ≥ 4))
      ·replace H := ite_f H (of_decide_eq_false hb87)
       rw [hb87] at hs
       refine q_pvs 14 29 [4] hs (L' := [(4, .bool false)]) (by kernel_rfl) ?_ rfl
       clear hs; intro a hs
       refine q_end (by kernel_rfl) ?_
       intro wq hbq
       replace hw := hw.behind hbq
       replace hw := hw.up 1
       replace hw := hw.up 1
       replace hw := hw.only 2
       exact hJ4 false _ _ (hs.keep [4] (by kernel_rfl)) hw H
      ·replace H := ite_t H (of_decide_eq_true hb87)
       rw [hb87] at hs
       refine q_pvs 14 20 [6, 10, 12, 108] hs (L' := [(6, .slice Aa13 (l0.take (mnn (l0.length : Int) 200 : Int).toNat).length cc14), (10, .int .i64 t54), (12, .slice Aa75 t72.length cc76), (108, .bool (decide (t54 ≤ ((l0.take (mnn (l0.length : Int) 200 : Int).toNat).length : Int))))]) (by kernel_rfl) ?_ rfl
       clear hs; intro a hs
       cases hb88 : (decide (t54 ≤ ((l0.take (mnn (l0.length : Int) 200 : Int).toNat).length : Int)))
       ·replace H := ite_f H (of_decide_eq_false hb88)
        rw [hb88] at hs
        refine q_pvs 20 29 [4] hs (L' := [(4, .bool false)]) (by kernel_rfl) ?_ rfl
        clear hs; intro a hs
        refine q_end (by kernel_rfl) ?_
        intro wq hbq
        replace hw := hw.behind hbq
        replace hw := hw.up 1
        replace hw := hw.up 1
        replace hw := hw.only 2
        exact hJ4 false _ _ (hs.keep [4] (by kernel_rfl)) hw H
       ·replace H := ite_t H (of_decide_eq_true hb88)
        rw [hb88] at hs
        refine q_pvs 20 21 [6, 10, 108, 109] hs (L' := [(6, .slice Aa13 (l0.take (mnn (l0.length : Int) 200 : Int).toNat).length cc14), (10, .int .i64 t54), (108, .bool true), (109, .slice Aa75 t72.length cc76)]) (by kernel_rfl) ?_ rfl
        clear hs; intro a hs
        refine q_run hs (op := (Op.convert 22 9 (Operand.tmp 109))) (ty := 9) (dst := some 110) (g := some (19, true)) (by kernel_rfl) (by kernel_rfl) (by kernel_rfl) (fun wx hbx => (x_conv (e := 5) (l := t72) ((Rd.of_own (hw.up 0)).below hbx) (by kernel_rfl) (by kernel_rfl) (by kernel_rfl) (by kernel_rfl))) [6, 10, 108, 110] (L' := [(6, .slice Aa13 (l0.take (mnn (l0.length : Int) 200 : Int).toNat).length cc14), (10, .int .i64 t54), (108, .bool true), (110, .string (strOfNums t72))]) (by kernel_rfl) ?_
        clear hs; intro a hs
        refine q_pvs 22 24 [108, 110, 111, 112] hs (L' := [(108, .bool true), (110, .string (strOfNums t72)), (111, .slice Aa13 (l0.take (mnn (l0.length : Int) 200 : Int).toNat).length cc14), (112, .int .i64 t54)]) (by kernel_rfl) ?_ rfl
        clear hs; intro a hs
        obtain ⟨hp89, H⟩ := ite_only H
        obtain ⟨Aa90, cc91, hx92, hc93⟩ := w_hi (P := Tryd.prog) (ty := 22) (E := (eI .u8)) (T := 5) (t := 22) (x := (Operand.tmp 111)) (y := (Operand.tmp 112)) (k := .i64) hs (by kernel_rfl) (by kernel_rfl) (hc16 _ (hr0.old hw)) (by kernel_rfl) (by kernel_rfl) hp89.1 hp89.2
        refine q_run hs (op := (Op.slice 22 (Operand.tmp 111) none (some (Operand.tmp 112)) none)) (ty := 22) (dst := some 113) (g := some (19, true)) (by kernel_rfl) (by kernel_rfl) (by kernel_rfl) (fun wx hbx => (hx92 wx)) [108, 110, 113] (L' := [(108, .bool true), (110, .string (strOfNums t72)), (113, .slice Aa90 ((l0.take (mnn (l0.length : Int) 200 : Int).toNat).take (t54 : Int).toNat).length cc91)]) (by kernel_rfl) ?_
        clear hs; intro a hs
        refine q_run hs (op := (Op.convert 22 9 (Operand.tmp 113))) (ty := 9) (dst := some 114) (g := some (19, true)) (by kernel_rfl) (by kernel_rfl) (by kernel_rfl) (fun wx hbx => (x_conv (e := 5) (l := (l0.take (mnn (l0.length : Int) 200 : Int).toNat).take (t54 : Int).toNat) ((hc93 _ (hc16 _ (hr0.old hw))).below hbx) (by kernel_rfl) (by kernel_rfl) (by kernel_rfl) (by kernel_rfl))) [108, 110, 114] (L' := [(108, .bool true), (110, .string (strOfNums t72)), (114, .string (strOfNums ((l0.take (mnn (l0.length : Int) 200 : Int).toNat).take (t54 : Int).toNat)))]) (by kernel_rfl) ?_
        clear hs; intro a hs
        refine q_pvs 26 29 [4] hs (L' := [(4, .bool ((strOfNums t72).toList == (strOfNums ((l0.take (mnn (l0.length : Int) 200 : Int).toNat).take (t54 : Int).toNat)).toList))]) (by kernel_rfl) ?_ rfl
        clear hs; intro a hs
        refine q_end (by kernel_rfl) ?_
        intro wq hbq
        replace hw := hw.behind hbq
        replace hw := hw.up 1
        replace hw := hw.up 1
        replace hw := hw.only 2
        exact hJ4 ((strOfNums t72).toList == (strOfNums ((l0.take (mnn (l0.length : Int) 200 : Int).toNat).take (t54 : Int).toNat)).toList) _ _ (hs.keep [4] (by kernel_rfl)) hw H
 refine go_seq_k fun K29 hK29 => ?_
 have hJ1 : ∀ (v47 : Bool) (a : Act) (w : World), Slots a 117 [(5, .bool t4), (6, .slice Aa13 (l0.take (mnn (l0.length : Int) 200 : Int).toNat).length cc14), (54, .bool v47)] → St [] w0 w [own 43 (eI .u32) Aa23 cc24 t20] → rivetlaw07_LeTaken.j1 l0 t4 v47 = some r → K29 a w := by
  intro v47 a w hs hw H
  unfold rivetlaw07_LeTaken.j1 at H
  refine hK29 _ _ ?_
  refine go_cond hs v47 (by kernel_rfl) (fun hc => ?_) (fun hc => ?_)
  ·replace H := ite_t H hc
   have hb48 := hc
   rw [hb48] at hs
   refine go_seq_k fun K49 hK49 => ?_
   refine go_region ?_
   refine go_pvs 0 1 [4] hs (L' := [(4, .bool false)]) (by kernel_rfl) ?_ rfl
   clear hs; intro a hs
   refine go_end (by kernel_rfl) ?_
   refine hK49 _ _ ?_
   refine wp_ret ?_
   refine th_ret ?_
   obtain rfl := Option.some.inj H
   refine ret1 (t := 4) (v := .bool false) hs (by kernel_rfl) (by kernel_rfl) ?_
   exact ⟨rfl, hw.only 0⟩
  ·replace H := ite_f H (ff hc)
   have hb50 := hc
   rw [hb50] at hs
   refine wp_skip ?_
   replace hw := hw.only 1
   exact hJ2 _ _ (hs.keep [5, 6] (by kernel_rfl)) hw H
 refine c_region [(true, [0, 1, 2, 3, 4, 5, 6, 7, 8, 9, 10, 11, 12, 13, 14, 15, 16, 17, 18, 21, 22, 23, 24, 25, 26], 19)] [20, 27, 28, 29] (by kernel_rfl) (by kernel_rfl) (fun c a d v w h => by cases d <;> exact h) ?_
 refine c_seg ?_
 refine c_pvs [0, 1, 2] [3, 4, 5, 6, 7, 8, 9, 10, 11, 12, 13, 14, 15, 16, 17, 18, 21, 22, 23, 24, 25, 26] [1, 5, 6, 7, 27] hs (L' := [(1, .int .u8 a1), (5, .bool t4), (6, .slice Aa13 (l0.take (mnn (l0.length : Int) 200 : Int).toNat).length cc14), (7, .slice Aa23 t20.length cc24), (27, .bool (t21 == 0))]) (by kernel_rfl) ?_ (by kernel_rfl)
 clear hs; intro a hs
 cases hb30 : (t21 == 0)
 ·replace H := ite_f H (beq_eq_false_iff_ne.1 hb30)
  rw [hb30] at hs
  refine c_pvs [3, 4, 5, 6, 7, 8, 9, 10, 11, 12, 13, 14, 15, 16, 17, 18, 21, 22, 23, 24, 25, 26] [] [5, 6, 27, 42, 43, 51] hs (L' := [(5, .bool t4), (6, .slice Aa13 (l0.take (mnn (l0.length : Int) 200 : Int).toNat).length cc14), (27, .bool false), (42, undef), (43, undef), (51, undef)]) (by kernel_rfl) ?_ (by kernel_rfl)
  clear hs; intro a hs
  refine c_end ?_
  intro wq hbq
  replace hw := hw.behind hbq
  have hbc := Below.refl wq.heap.size wq
  refine p_pvs [19] [] [5, 6, 27, 42, 44, 51] hs (L' := [(5, .bool t4), (6, .slice Aa13 (l0.take (mnn (l0.length : Int) 200 : Int).toNat).length cc14), (27, .bool false), (42, undef), (44, undef), (51, undef)]) (by kernel_rfl) ?_
  clear hs; intro a hs
  refine c_done ⟨bl_of hbq hbc, ?_⟩
  clear hbc hbq
  refine c_last ?_
  refine c_pvs [20, 27, 28, 29] [] [5, 6, 54] hs (L' := [(5, .bool t4), (6, .slice Aa13 (l0.take (mnn (l0.length : Int) 200 : Int).toNat).length cc14), (54, .bool false)]) (by kernel_rfl) ?_ (by kernel_rfl)
  clear hs; intro a hs
  refine c_end ?_
  intro wq hbq
  replace hw := hw.behind hbq
  replace hw := hw.only 1
  exact hJ1 false _ _ (hs.keep [5, 6, 54] (by kernel_rfl)) hw H
 ·replace H := ite_t H (beq_iff_eq.1 hb30)
  rw [hb30] at hs
  refine c_pvs [3, 4, 5, 6, 7, 8, 9] [10, 11, 12, 13, 14, 15, 16, 17, 18, 21, 22, 23, 24, 25, 26] [5, 6, 7, 27, 34] hs (L' := [(5, .bool t4), (6, .slice Aa13 (l0.take (mnn (l0.length : Int) 200 : Int).toNat).length cc14), (7, .slice Aa23 t20.length cc24), (27, .bool true), (34, .bool ((t20.length : Int) != (w64 (a1.tmod 64))))]) (by kernel_rfl) ?_ (by kernel_rfl)
  clear hs; intro a hs
  cases hb31 : ((t20.length : Int) != (w64 (a1.tmod 64)))
  ·replace H := ite_t H (bne_eq_false_iff_eq.1 hb31)
   rw [hb31] at hs
   refine c_pvs [10, 11, 12, 13, 14, 15, 16, 17] [18, 21, 22, 23, 24, 25, 26] [5, 6, 7, 27, 42] hs (L' := [(5, .bool t4), (6, .slice Aa13 (l0.take (mnn (l0.length : Int) 200 : Int).toNat).length cc14), (7, .slice Aa23 t20.length cc24), (27, .bool true), (42, .bool (decide (((l0.take (mnn (l0.length : Int) 200 : Int).toNat).length : Int) < (w64 (4 * (t20.length : Int))))))]) (by kernel_rfl) ?_ (by kernel_rfl)
   clear hs; intro a hs
   cases hb32 : (decide (((l0.take (mnn (l0.length : Int) 200 : Int).toNat).length : Int) < (w64 (4 * (t20.length : Int)))))
   ·replace H := ite_f H (of_decide_eq_false hb32)
    rw [hb32] at hs
    refine c_pvs [18, 21, 22, 23, 24] [25, 26] [5, 6, 27, 42, 43, 46, 49] hs (L' := [(5, .bool t4), (6, .slice Aa13 (l0.take (mnn (l0.length : Int) 200 : Int).toNat).length cc14), (27, .bool true), (42, .bool false), (43, .slice Aa23 t20.length cc24), (46, .slice Aa13 (l0.take (mnn (l0.length : Int) 200 : Int).toNat).length cc14), (49, .int .i64 (w64 (4 * (t20.length : Int))))]) (by kernel_rfl) ?_ (by kernel_rfl)
    clear hs; intro a hs
    obtain ⟨hp33, H⟩ := ite_only H
    obtain ⟨Aa34, cc35, hx36, hc37⟩ := w_hi (P := Tryd.prog) (ty := 22) (E := (eI .u8)) (T := 5) (t := 22) (x := (Operand.tmp 46)) (y := (Operand.tmp 49)) (k := .i64) hs (by kernel_rfl) (by kernel_rfl) (hc16 _ (hr0.old hw)) (by kernel_rfl) (by kernel_rfl) hp33.1 hp33.2
    refine c_run hs (op := (Op.slice 22 (Operand.tmp 46) none (some (Operand.tmp 49)) none)) (ty := 22) (dst := some 50) (g := some (17, false)) (by kernel_rfl) (by kernel_rfl) (by kernel_rfl) (fun wx hbx => (hx36 wx)) [5, 6, 27, 42, 43, 50] (L' := [(5, .bool t4), (6, .slice Aa13 (l0.take (mnn (l0.length : Int) 200 : Int).toNat).length cc14), (27, .bool true), (42, .bool false), (43, .slice Aa23 t20.length cc24), (50, .slice Aa34 ((l0.take (mnn (l0.length : Int) 200 : Int).toNat).take (w64 (4 * (t20.length : Int)) : Int).toNat).length cc35)]) (by kernel_rfl) ?_
    clear hs; intro a hs
    refine c_run hs (op := (Op.convert 22 9 (Operand.tmp 50))) (ty := 9) (dst := some 51) (g := some (17, false)) (by kernel_rfl) (by kernel_rfl) (by kernel_rfl) (fun wx hbx => (x_conv (e := 5) (l := (l0.take (mnn (l0.length : Int) 200 : Int).toNat).take (w64 (4 * (t20.length : Int)) : Int).toNat) ((hc37 _ (hc16 _ (hr0.old hw))).below hbx) (by kernel_rfl) (by kernel_rfl) (by kernel_rfl) (by kernel_rfl))) [5, 6, 27, 42, 43, 51] (L' := [(5, .bool t4), (6, .slice Aa13 (l0.take (mnn (l0.length : Int) 200 : Int).toNat).length cc14), (27, .bool true), (42, .bool false), (43, .slice Aa23 t20.length cc24), (51, .string (strOfNums ((l0.take (mnn (l0.length : Int) 200 : Int).toNat).take (w64 (4 * (t20.length : Int)) : Int).toNat)))]) (by kernel_rfl) ?_
    clear hs; intro a hs
    refine c_end ?_
    intro wq hbq
    replace hw := hw.behind hbq
    have hbc := Below.refl wq.heap.size wq
    obtain ⟨t40, hx41, H⟩ := bind_some H
    refine p_call hs (op := (Op.call { callee := (Callee.value (Operand.func 19)), args := #[(Operand.tmp 43)], argTypes := #[32] })) (ty := 22) (dst := some 44) (g := some (17, false)) (by kernel_rfl) (by kernel_rfl) (by kernel_rfl) (f := 19) (args := #[.slice Aa23 t20.length cc24]) (by kernel_rfl) (le_Put.calls Aa23 cc24 t20 t40 _ (Rd.of_own (hw.up 0)) hx41) ?_
    rintro e wd44 ⟨Aa42, cc43, rfl, hw45⟩
    refine ⟨_, rfl, ?_⟩
    replace hbc := hw45.below
    replace hw := hw.call hw45
    intro a hs1
    replace hs : Slots a 117 [(5, .bool t4), (6, .slice Aa13 (l0.take (mnn (l0.length : Int) 200 : Int).toNat).length cc14), (27, .bool true), (42, .bool false), (44, .slice Aa42 t40.length cc43), (51, .string (strOfNums ((l0.take (mnn (l0.length : Int) 200 : Int).toNat).take (w64 (4 * (t20.length : Int)) : Int).toNat)))] := hs1.keep [5, 6, 27, 42, 44, 51] (by kernel_rfl)
    clear hs1
    refine c_done ⟨bl_of hbq hbc, ?_⟩
    clear hbc hbq
    refine c_last ?_
    refine c_run hs (op := (Op.convert 22 9 (Operand.tmp 44))) (ty := 9) (dst := some 45) (g := some (17, false)) (by kernel_rfl) (by kernel_rfl) (by kernel_rfl) (fun wx hbx => (x_conv (e := 5) (l := t40) ((Rd.of_own (hw.up 0)).below hbx) (by kernel_rfl) (by kernel_rfl) (by kernel_rfl) (by kernel_rfl))) [5, 6, 27, 42, 45, 51] (L' := [(5, .bool t4), (6, .slice Aa13 (l0.take (mnn (l0.length : Int) 200 : Int).toNat).length cc14), (27, .bool true), (42, .bool false), (45, .string (strOfNums t40)), (51, .string (strOfNums ((l0.take (mnn (l0.length : Int) 200 : Int).toNat).take (w64 (4 * (t20.length : Int)) : Int).toNat)))]) (by kernel_rfl) ?_
    clear hs; intro a hs
    refine c_pvs [27, 28, 29] [] [5, 6, 54] hs (L' := [(5, .bool t4), (6, .slice Aa13 (l0.take (mnn (l0.length : Int) 200 : Int).toNat).length cc14), (54, .bool (!((strOfNums t40).toList == (strOfNums ((l0.take (mnn (l0.length : Int) 200 : Int).toNat).take (w64 (4 * (t20.length : Int)) : Int).toNat)).toList)))]) (by kernel_rfl) ?_ (by kernel_rfl)
    clear hs; intro a hs
    refine c_end ?_
    intro wq hbq
    replace hw := hw.behind hbq
    replace hw := hw.up 1
    replace hw := hw.only 1
    exact hJ1 (!((strOfNums t40).toList == (strOfNums ((l0.take (mnn (l0.length : Int) 200 : Int).toNat).take (w64 (4 * (t20.length : Int)) : Int).toNat)).toList)) _ _ (hs.keep [5, 6, 54] (by kernel_rfl)) hw H
   ·replace H := ite_t H (of_decide_eq_true hb32)
    rw [hb32] at hs
    refine c_pvs [18, 21, 22, 23, 24, 25, 26] [] [5, 6, 27, 42, 43, 51] hs (L' := [(5, .bool t4), (6, .slice Aa13 (l0.take (mnn (l0.length : Int) 200 : Int).toNat).length cc14), (27, .bool true), (42, .bool true), (43, undef), (51, undef)]) (by kernel_rfl) ?_ (by kernel_rfl)
    clear hs; intro a hs
    refine c_end ?_
    intro wq hbq
    replace hw := hw.behind hbq
    have hbc := Below.refl wq.heap.size wq
    refine p_pvs [19] [] [5, 6, 27, 42, 44, 51] hs (L' := [(5, .bool t4), (6, .slice Aa13 (l0.take (mnn (l0.length : Int) 200 : Int).toNat).length cc14), (27, .bool true), (42, .bool true), (44, undef), (51, undef)]) (by kernel_rfl) ?_
    clear hs; intro a hs
    refine c_done ⟨bl_of hbq hbc, ?_⟩
    clear hbc hbq
    refine c_last ?_
    refine c_pvs [20, 27, 28, 29] [] [5, 6, 54] hs (L' := [(5, .bool t4), (6, .slice Aa13 (l0.take (mnn (l0.length : Int) 200 : Int).toNat).length cc14), (54, .bool true)]) (by kernel_rfl) ?_ (by kernel_rfl)
    clear hs; intro a hs
    refine c_end ?_
    intro wq hbq
    replace hw := hw.behind hbq
    replace hw := hw.only 1
    exact hJ1 true _ _ (hs.keep [5, 6, 54] (by kernel_rfl)) hw H
  ·replace H := ite_f H (bne_iff_ne.1 hb31)
   rw [hb31] at hs
   refine c_pvs [10, 11, 12, 13, 14, 15, 16, 17, 18, 21, 22, 23, 24, 25, 26] [] [5, 6, 27, 42, 43, 51] hs (L' := [(5, .bool t4), (6, .slice Aa13 (l0.take (mnn (l0.length : Int) 200 : Int).toNat).length cc14), (27, .bool true), (42, .bool true), (43, undef), (51, undef)]) (by kernel_rfl) ?_ (by kernel_rfl)
   clear hs; intro a hs
   refine c_end ?_
   intro wq hbq
   replace hw := hw.behind hbq
   have hbc := Below.refl wq.heap.size wq
   refine p_pvs [19] [] [5, 6, 27, 42, 44, 51] hs (L' := [(5, .bool t4), (6, .slice Aa13 (l0.take (mnn (l0.length : Int) 200 : Int).toNat).length cc14), (27, .bool true), (42, .bool true), (44, undef), (51, undef)]) (by kernel_rfl) ?_
   clear hs; intro a hs
   refine c_done ⟨bl_of hbq hbc, ?_⟩
   clear hbc hbq
   refine c_last ?_
   refine c_pvs [20, 27, 28, 29] [] [5, 6, 54] hs (L' := [(5, .bool t4), (6, .slice Aa13 (l0.take (mnn (l0.length : Int) 200 : Int).toNat).length cc14), (54, .bool true)]) (by kernel_rfl) ?_ (by kernel_rfl)
   clear hs; intro a hs
   refine c_end ?_
   intro wq hbq
   replace hw := hw.behind hbq
   replace hw := hw.only 1
   exact hJ1 true _ _ (hs.keep [5, 6, 54] (by kernel_rfl)) hw H

end Go.Proofs.YtckefpenekolhaaDoor.T07
